/- Contracts of msg.On and of the reference's On. -/
import Derived.Test.YtemhflafiephpaaMsg
import Derived.Test.YtemhflafiephpaaLendRW
namespace Go.Proofs.Ytemhflafiephpaa
open Go.RowKit
/-- an update as a value -/
def upV (u : Msg.Up) : Value := .agg #[.int .u8 (u.kind : Int), .string u.key, .string u.value, .int .u64 (u.delta : Int)]
def pairV (p : ByteArray × Bool) : Value := .tuple #[.string p.1, .bool p.2]
theorem wrap_add (a b : Nat) : IntKind.u64.wrap ((a : Int) + (b : Int)) = ((a + b) % 18446744073709551616 : Nat) := by rw [IntKind.wrap_u64]; omega
theorem on_any (s key v : ByteArray) (t : Bool) (k d : Nat) (w : World) (hk : k < 256) (hs : s.size ≤ maxLen) (hd : d < 18446744073709551616) :
    Calls Try.prog 19 #[.string s, .bool t, .agg #[.int .u8 (k : Int), .string key, .string v, .int .u64 (d : Int)]] w fun e w' => e = .returned (pairV (Msg.on (s, t) ⟨k, key, v, d⟩)) ∧ Ext w w' := by
  by_cases h1 : k = 1
  · subst h1
    rw [Msg.on_put _ _ rfl]
    cases t
    all_goals
      go_enter Try.func19, Try.ntmps19
      go_wp2_with fail
      go_ret2
      exact ⟨rfl, Ext.alloc _ _⟩
  by_cases h2 : k = 2
  · subst h2
    rw [Msg.on_del _ _ rfl]
    cases t
    all_goals
      go_enter Try.func19, Try.ntmps19
      go_wp2_with fail
      go_ret2
      exact ⟨rfl, Ext.alloc _ _⟩
  have q1 : ((k : Int) == 1) = false := beq_eq_false_iff_ne.2 (by omega)
  have q2 : ((k : Int) == 2) = false := beq_eq_false_iff_ne.2 (by omega)
  by_cases h3 : k = 3
  · subst h3
    cases t
    · rw [Msg.on_add_new _ _ rfl]
      have hN := numAns_no (s := ByteArray.empty) (by decide)
      have HN := Lib.hid hN; clear hN
      have hw : IntKind.u64.wrap (0 + (d : Int)) = (d : Int) := by rw [IntKind.wrap_u64]; omega
      go_enter Try.func19, Try.ntmps19
      go_wp2_with fail
      refine (number_any _ _ (by decide)).mono ?_
      rintro e w1 ⟨rfl, he1⟩
      have hc3 := cell_ext (World.cell?_alloc_new w _ _ 3) he1
      have he1 := (Ext.alloc _ _).trans he1
      rw [show numAns ⟨#[]⟩ = _ from HN.out]
      go_wp2_with fail
      refine (value_any d _ hd).mono ?_
      rintro e w2 ⟨rfl, he2⟩
      go_wp2_with fail
      go_ret2
      exact ⟨rfl, he1.trans he2⟩
    · by_cases h8 : s.size = 8
      · rw [Msg.on_add_num _ _ rfl h8]
        have HN := Lib.hid (numAns_yes h8)
        have hw := wrap_add (Msg.num s) d
        have hl := Nat.mod_lt (Msg.num s + d) (show 0 < 18446744073709551616 by decide)
        generalize (Msg.num s + d) % 18446744073709551616 = N at *
        generalize Msg.num s = M at *
        go_enter Try.func19, Try.ntmps19
        go_wp2_with fail
        refine (number_any _ _ hs).mono ?_
        rintro e w1 ⟨rfl, he1⟩
        have hc3 := cell_ext (World.cell?_alloc_new w _ _ 3) he1
        have he1 := (Ext.alloc _ _).trans he1
        rw [HN.out]
        go_wp2_with fail
        refine (value_any N _ hl).mono ?_
        rintro e w2 ⟨rfl, he2⟩
        go_wp2_with fail
        go_ret2
        exact ⟨rfl, he1.trans he2⟩
      · rw [Msg.on_add_text _ _ rfl h8]
        have HN := Lib.hid (numAns_no h8)
        go_enter Try.func19, Try.ntmps19
        go_wp2_with fail
        refine (number_any _ _ hs).mono ?_
        rintro e w1 ⟨rfl, he1⟩
        have hc3 := cell_ext (World.cell?_alloc_new w _ _ 3) he1
        have he1 := (Ext.alloc _ _).trans he1
        rw [HN.out]
        go_wp2_with fail
        go_ret2
        exact ⟨rfl, he1⟩
  have q3 : ((k : Int) == 3) = false := beq_eq_false_iff_ne.2 (by omega)
  cases t
  · rw [Msg.on_other_no _ _ (by simp; omega)]
    go_enter Try.func19, Try.ntmps19
    go_wp2_with fail
    go_ret2
    exact ⟨rfl, Ext.alloc _ _⟩
  · rw [Msg.on_other _ _ (by simp; omega)]
    go_enter Try.func19, Try.ntmps19
    go_wp2_with fail
    go_ret2
    exact ⟨rfl, Ext.alloc _ _⟩
theorem put8_ans (n : Nat) (hn : n < 18446744073709551616) : putAns n 8 = .tuple #[.string (Msg.val n), .bool true] := by
  unfold putAns
  rw [if_pos (by decide), show decide (n < 256 ^ (8 : Int).toNat) = true from decide_eq_true hn]; rfl
theorem put8_any (n : Nat) (w : World) (hn : n < 18446744073709551616) : Calls Try.prog 16 #[.int .u64 (n : Int), .int .i64 8] w fun e w' => e = .returned (.tuple #[.string (Msg.val n), .bool true]) ∧ Ext w w' := by
  have h := put_any n 8 w hn
  rw [put8_ans n hn] at h
  exact h
theorem refon_any (s key v : ByteArray) (t : Bool) (k d : Nat) (w : World) (hk : k < 256) (hd : d < 18446744073709551616) :
    Calls Try.prog 20 #[.string s, .bool t, .agg #[.int .u8 (k : Int), .string key, .string v, .int .u64 (d : Int)]] w fun e w' => e = .returned (pairV (Msg.on (s, t) ⟨k, key, v, d⟩)) ∧ Ext w w' := by
  by_cases h1 : k = 1
  · subst h1
    rw [Msg.on_put _ _ rfl]
    cases t
    all_goals
      go_enter Try.func20, Try.ntmps20
      go_wp2_with fail
      go_ret2
      exact ⟨rfl, Ext.alloc _ _⟩
  by_cases h2 : k = 2
  · subst h2
    rw [Msg.on_del _ _ rfl]
    cases t
    all_goals
      go_enter Try.func20, Try.ntmps20
      go_wp2_with fail
      go_ret2
      exact ⟨rfl, Ext.alloc _ _⟩
  have q1 : ((k : Int) == 1) = false := beq_eq_false_iff_ne.2 (by omega)
  have q2 : ((k : Int) == 2) = false := beq_eq_false_iff_ne.2 (by omega)
  by_cases h3 : k = 3
  · subst h3
    cases t
    · rw [Msg.on_add_new _ _ rfl]
      have hw : IntKind.u64.wrap (0 + (d : Int)) = (d : Int) := by rw [IntKind.wrap_u64]; omega
      go_enter Try.func20, Try.ntmps20
      go_wp2_with fail
      refine (get_any _ _ (by decide)).mono ?_
      rintro e w1 ⟨rfl, he⟩
      subst he
      rw [show (Crc.le (⟨#[]⟩ : ByteArray).data.toList : Int) = 0 from rfl]
      go_wp2_with fail
      refine (put8_any d _ hd).mono ?_
      rintro e w2 ⟨rfl, he2⟩
      go_wp2_with fail
      go_ret2
      exact ⟨rfl, (Ext.alloc _ _).trans he2⟩
    · by_cases h8 : s.size = 8
      · rw [Msg.on_add_num _ _ rfl h8]
        have hn8 : ((s.size : Int) != 8) = false := by rw [h8]; rfl
        have hw := wrap_add (Msg.num s) d
        have hl := Nat.mod_lt (Msg.num s + d) (show 0 < 18446744073709551616 by decide)
        have hM := Lib.hid (show Crc.le s.data.toList = Msg.num s from rfl)
        generalize (Msg.num s + d) % 18446744073709551616 = N at *
        generalize Msg.num s = M at *
        go_enter Try.func20, Try.ntmps20
        go_wp2_with fail
        refine (get_any s _ (by omega)).mono ?_
        rintro e w1 ⟨rfl, he⟩
        subst he
        rw [hM.out]
        go_wp2_with fail
        refine (put8_any N _ hl).mono ?_
        rintro e w2 ⟨rfl, he2⟩
        go_wp2_with fail
        go_ret2
        exact ⟨rfl, (Ext.alloc _ _).trans he2⟩
      · rw [Msg.on_add_text _ _ rfl h8]
        have hn8 : ((s.size : Int) != 8) = true := by simp; omega
        go_enter Try.func20, Try.ntmps20
        go_wp2_with fail
        go_ret2
        exact ⟨rfl, Ext.alloc _ _⟩
  have q3 : ((k : Int) != 3) = true := by simp; omega
  cases t
  · rw [Msg.on_other_no _ _ (by simp; omega)]
    go_enter Try.func20, Try.ntmps20
    go_wp2_with fail
    go_ret2
    exact ⟨rfl, Ext.alloc _ _⟩
  · rw [Msg.on_other _ _ (by simp; omega)]
    go_enter Try.func20, Try.ntmps20
    go_wp2_with fail
    go_ret2
    exact ⟨rfl, Ext.alloc _ _⟩
end Go.Proofs.Ytemhflafiephpaa
