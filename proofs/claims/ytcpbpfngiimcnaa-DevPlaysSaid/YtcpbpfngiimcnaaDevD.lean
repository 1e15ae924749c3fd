/- slices.Backward over a cache: its iterator's contract. -/
import Derived.RangeFuncNested
import Derived.RangeFuncBound
import Derived.RangeFuncCalls
import Derived.RangeFuncLeaves
import Derived.Shelf.Abstract
import Derived.Shelf.RegionOpen
import Derived.WalkKit
import Derived.OwnWalkIn
import Derived.TacticsInMore
import Derived.LoopNIn
import Derived.LoopIn
import Derived.Test.YtcpbpfngiimcnaaDevC
namespace Go.Proofs.Ytcpbpfngiimcnaa
open Go.RowKit Go.Shelf
attribute [local go_sem] Oper.semAt_some
/-- what has come when k rounds are over -/
def upto {α : Type} (f : Nat → α) (k : Nat) : List α := (List.range k).map f
theorem upto_succ {α : Type} (f : Nat → α) (k : Nat) : upto f (k + 1) = upto f k ++ [f k] := by simp [upto, List.range_succ]
theorem upto_length {α : Type} (f : Nat → α) (k : Nat) : (upto f k).length = k := by simp [upto]
/-- what comes in round r, the cache being c -/
def bk (c : List (Nat × ByteArray)) (r : Nat) : Nat × Nat × ByteArray := (c.length - 1 - r, c.getD (c.length - 1 - r) (0, .empty))
theorem bk_at {c : List (Nat × ByteArray)} {j : Nat} (h : j < c.length) : bk c (c.length - (j + 1)) = (j, c[j].1, c[j].2) := by
  unfold bk
  have e : c.length - 1 - (c.length - (j + 1)) = j := by omega
  rw [e, List.getD_eq_getElem?_getD, List.getElem?_eq_getElem h]
  rfl
def encW (x : Nat × Nat × ByteArray) : Array Value := #[.int .i64 (x.1 : Int), .agg #[.int .i64 (x.2.1 : Int), .string x.2.2]]
set_option maxRecDepth 100000 in
set_option maxHeartbeats 2000000 in
theorem back1_in (n : Nat) (hn : 1 ≤ n) (l Bs n₀ : Nat) (a : Option Addr) (cap : Nat) (c : List (Nat × ByteArray)) (hlen : c.length ≤ 1000) (hBn : Bs < n₀) (J Jx : List (Nat × Nat × ByteArray) → World → Prop)
    (hY : ∀ pre x W, J pre W → pre.length < c.length → YieldAt Fence.wide (n - 1) Try.prog l #[.int .i64 (x.1 : Int), .agg #[.int .i64 (x.2.1 : Int), .string x.2.2]] W fun e W' =>
      (e = .returned (.bool true) ∧ J (pre ++ [x]) W' ∧ Below n₀ W W') ∨ (e = .returned (.bool false) ∧ Jx (pre ++ [x]) W'))
    (W : World) (hBs : W.cell? ⟨Bs, 0, none⟩ = some (.slice a c.length cap)) (hc : ∀ i (hi : i < c.length), ∃ g, a = some ⟨g, 0, none⟩ ∧ g < n₀ ∧ W.cell? ⟨g, i * 2, none⟩ = some (.int .i64 (c[i].1 : Int)) ∧ W.cell? ⟨g, i * 2 + 1, none⟩ = some (.string c[i].2)) (h0 : J [] W) :
    CallsIn Fence.wide n Try.prog 61 #[.func (.yield l) #[] #[], .pointer (some ⟨Bs, 0, none⟩)] W fun e W' => (∃ v, e = .returned v) ∧
      ((∃ ys, ys = upto (bk c) c.length ∧ J ys W') ∨ (∃ pre, (∃ k, k ≤ c.length ∧ pre = upto (bk c) k) ∧ Jx pre W')) := by
  refine callsIn_of_wp Try.func61 rfl trivial ?_ rfl
  simp only [Try.ntmps61, List.size_toArray, List.length_cons, List.length_nil, Nat.reduceAdd, Nat.reduceSub, Array.replicate_succ, Array.replicate_zero, List.push_toArray, List.append_toArray, List.nil_append, List.cons_append]
  gi_wp2
  gi_loopw [3] (fun i wr => ∃ m : Nat, m ≤ c.length ∧ i = .int .i64 ((m : Int) - 1) ∧ J (upto (bk c) (c.length - m)) wr ∧ Below n₀ W wr)
    (fun i _ => (intOf i + 1).toNat)
  case atStart => exact ⟨c.length, Nat.le_refl _, by simp, by rw [Nat.sub_self]; exact h0, Below.refl _ _⟩
  case round =>
    obtain ⟨m, hm, rfl, hJs, hnx⟩ := hrel
    have hbx := (hnx.cell (p := ⟨Bs, 0, none⟩) hBn).trans hBs
    cases m with
    | zero =>
      rw [show ((0 : Nat) : Int) - 1 = -1 from rfl]
      gi_wp2
      go_end0
      exact ⟨⟨_, rfl⟩, .inl ⟨_, rfl, by simpa using hJs⟩⟩
    | succ j =>
      have hj : j < c.length := by omega
      obtain ⟨g, rfl, hg, c0, c1⟩ := hc j hj
      have x0 := (hnx.cell (p := ⟨g, j * 2, none⟩) hg).trans c0
      have x1 := (hnx.cell (p := ⟨g, j * 2 + 1, none⟩) hg).trans c1
      rw [show ((j + 1 : Nat) : Int) - 1 = (j : Int) by omega]
      obtain ⟨fn, tmps, assign, body, hy, hR⟩ := hY _ (j, c[j].1, c[j].2) wr hJs (by rw [upto_length]; omega)
      dsimp only at hy
      have hup : upto (bk c) (c.length - (j + 1)) ++ [(j, c[j].1, c[j].2)] = upto (bk c) (c.length - j) := by
        rw [← bk_at hj, ← upto_succ]
        congr 1
        omega
      rw [hup] at hR
      have HUP := Lib.hid hup
      have hj0 : (0 : Int) ≤ (j : Int) := by omega
      clear hup c0 c1 hc
      gi_wp2
      refine hR.mono ?_
      rintro e W3 (⟨rfl, hJ3, hk3⟩ | ⟨rfl, hJx3⟩)
      · gi_wp2
        go_roundw
        case rel => exact ⟨j, by omega, rfl, hJ3, hnx.trans hk3⟩
        case measure => simp [intOf]
      · gi_wp2
        refine bodyPost_ret (results_none rfl _ _ _) rfl ?_
        exact ⟨⟨_, rfl⟩, .inr ⟨_, ⟨c.length - j, by omega, rfl⟩, hJx3⟩⟩
set_option maxHeartbeats 1000000 in
theorem backward_any (a : Option Addr) (len cap : Nat) (w : World) :
    Calls Try.prog 48 #[.slice a len cap] w fun e w' => e = .returned (.func (.func 61) #[] #[.pointer (some ⟨w.heap.size, 0, none⟩)]) ∧ w' = w.alloc (.cells #[.slice a len cap] 77) := by
  go_enter Try.func48, Try.ntmps48
  go_wp2_with fail
  go_ret
  exact ⟨rfl, rfl⟩
theorem back_stops (n : Nat) (hn : 1 ≤ n) (Bs : Nat) (a : Option Addr) (cap : Nat) (c : List (Nat × ByteArray)) (hlen : c.length ≤ 1000) (w : World) (hBs : Bs < w.heap.size) (hcell : w.cell? ⟨Bs, 0, none⟩ = some (.slice a c.length cap))
    (hc : ∀ i (hi : i < c.length), ∃ g, a = some ⟨g, 0, none⟩ ∧ w.cell? ⟨g, i * 2, none⟩ = some (.int .i64 (c[i].1 : Int)) ∧ w.cell? ⟨g, i * 2 + 1, none⟩ = some (.string c[i].2)) :
    SeqStopsK Fence.wide n Try.prog 61 #[.pointer (some ⟨Bs, 0, none⟩)] encW (Below w.heap.size) (fun ys => ys = upto (bk c) c.length)
      (fun pre => ∃ k, k ≤ c.length ∧ pre = upto (bk c) k) c.length w := fun l J Jx W hW _ _ hY h0 =>
  back1_in n hn l Bs w.heap.size a cap c hlen hBs J Jx hY W ((hW.cell (p := ⟨Bs, 0, none⟩) hBs).trans hcell) (fun i hi => by
    obtain ⟨g, rfl, h1, h2⟩ := hc i hi
    have hg : g < w.heap.size := World.block_lt_of_cell? w _ h1
    exact ⟨g, rfl, hg, (hW.cell (p := ⟨g, i * 2, none⟩) hg).trans h1, (hW.cell (p := ⟨g, i * 2 + 1, none⟩) hg).trans h2⟩) h0
end Go.Proofs.Ytcpbpfngiimcnaa
