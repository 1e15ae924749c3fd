/- Contracts of env.sized, env.placed, (env.Head).right, env.Room, env.widths. -/
import Derived.Test.YtbnpldilkkhgmaaEnvSpec
import Derived.Test.YtbnpldilkkhgmaaLendRead
import Derived.Test.YtbnpldilkkhgmaaDrift
namespace Go.Proofs.Ytbnpldilkkhgmaa
open Go.RowKit
theorem sized_any (x : Int) (w : World) : Calls Try.prog 33 #[.int .i64 x] w fun e w' => e = .returned (.bool (Env.okSize x)) ∧ w = w' := by
  unfold Env.okSize
  by_cases h1 : 128 ≤ x
  · by_cases h2 : x ≤ 1024
    · rw [decide_eq_true h1, decide_eq_true h2]
      go_enter Try.func33, Try.ntmps33
      go_wp2
      go_ret
      exact ⟨rfl, rfl⟩
    · have h2' : decide (x ≤ 1024) = false := decide_eq_false h2
      rw [decide_eq_true h1, h2']
      go_enter Try.func33, Try.ntmps33
      go_wp2
      go_ret
      exact ⟨rfl, rfl⟩
  · have h1' : decide (128 ≤ x) = false := decide_eq_false h1
    rw [h1']
    go_enter Try.func33, Try.ntmps33
    go_wp2
    go_ret
    exact ⟨rfl, rfl⟩
theorem placed_any (x : Int) (w : World) : Calls Try.prog 43 #[.int .i64 x] w fun e w' => e = .returned (.bool (Env.okAddr x)) ∧ w = w' := by
  unfold Env.okAddr
  by_cases h1 : 0 ≤ x
  · by_cases h2 : x ≤ 2147483647
    · rw [decide_eq_true h1, decide_eq_true h2]
      go_enter Try.func43, Try.ntmps43
      go_wp2
      go_ret
      exact ⟨rfl, rfl⟩
    · have h2' : decide (x ≤ 2147483647) = false := decide_eq_false h2
      rw [decide_eq_true h1, h2']
      go_enter Try.func43, Try.ntmps43
      go_wp2
      go_ret
      exact ⟨rfl, rfl⟩
  · have h1' : decide (0 ≤ x) = false := decide_eq_false h1
    rw [h1']
    go_enter Try.func43, Try.ntmps43
    go_wp2
    go_ret
    exact ⟨rfl, rfl⟩
/-- a head as a value -/
def hdV (h : Env.Hd) : Value := .agg #[.int .u8 (h.kind : Int), .int .i64 h.addr, .int .u64 (h.gen : Int)]
theorem hright_any (k g : Nat) (x : Int) (w : World) : Calls Try.prog 34 #[.agg #[.int .u8 (k : Int), .int .i64 x, .int .u64 (g : Int)]] w fun e w' => e = .returned (.bool (Env.okHead ⟨k, x, g⟩)) ∧ Ext w w' := by
  unfold Env.okHead
  simp only
  by_cases h1 : 1 ≤ k
  · have q1 : decide ((1 : Int) ≤ (k : Int)) = true := decide_eq_true (by omega)
    by_cases h2 : k ≤ 5
    · have q2 : decide ((k : Int) ≤ 5) = true := decide_eq_true (by omega)
      rw [decide_eq_true h1, decide_eq_true h2]
      clear h1 h2
      obtain ⟨b, hb⟩ : ∃ b, b = Env.okAddr x := ⟨_, rfl⟩
      have HB := Lib.hid hb
      rw [← hb]
      clear hb
      go_enter Try.func34, Try.ntmps34
      go_wp2_with fail
      refine (placed_any x _).mono ?_
      rw [← HB.out]
      rintro e w1 ⟨rfl, he⟩
      subst he
      go_wp2_with fail
      go_ret
      exact ⟨by simp, Ext.alloc _ _⟩
    · have q2 : decide ((k : Int) ≤ 5) = false := decide_eq_false (by omega)
      rw [decide_eq_true h1, decide_eq_false h2]
      clear h1 h2
      go_enter Try.func34, Try.ntmps34
      go_wp2_with fail
      go_ret
      exact ⟨rfl, Ext.alloc _ _⟩
  · have q1 : decide ((1 : Int) ≤ (k : Int)) = false := decide_eq_false (by omega)
    rw [decide_eq_false h1]
    clear h1
    go_enter Try.func34, Try.ntmps34
    go_wp2_with fail
    go_ret
    exact ⟨rfl, Ext.alloc _ _⟩
def roomOf (x : Int) : Int := if Env.okSize x then x - 24 else 0
theorem room_any (x : Int) (w : World) : Calls Try.prog 17 #[.int .i64 x] w fun e w' => e = .returned (.int .i64 (roomOf x)) ∧ w = w' := by
  unfold roomOf
  cases h : Env.okSize x with
  | true =>
    have hb := Env.okSize_iff.1 h
    have H := Lib.hid h; clear h
    go_enter Try.func17, Try.ntmps17
    go_wp2_with fail
    refine (sized_any x _).mono ?_
    rw [H.out]
    rintro e w1 ⟨rfl, he⟩
    subst he
    go_wp2_with fail
    go_ret
    exact ⟨rfl, rfl⟩
  | false =>
    have H := Lib.hid h; clear h
    go_enter Try.func17, Try.ntmps17
    go_wp2_with fail
    refine (sized_any x _).mono ?_
    rw [H.out]
    rintro e w1 ⟨rfl, he⟩
    subst he
    go_wp2_with fail
    go_ret
    exact ⟨rfl, rfl⟩
theorem ints_new {n : Nat} (w : World) (k : IntKind) (T : TypeId) (xs : List Int) (_ : xs.length = n) : Ints k (w.alloc (.cells (xs.map (Value.int k)).toArray T)) (some ⟨w.heap.size, 0, none⟩) xs := fun i hi =>
  ⟨w.heap.size, 0, rfl, by rw [Nat.zero_add, World.cell?_alloc_new]; simp [hi]⟩
/-- a slice of integers -/
def SlI (k : IntKind) (n : Nat) (xs : List Int) (v : Value) (w : World) : Prop := ∃ a c, v = .slice a n c ∧ Ints k w a xs
theorem SlI.ext {k : IntKind} {n : Nat} {xs : List Int} {v : Value} {w w' : World} (h : SlI k n xs v w) (e : Ext w w') : SlI k n xs v w' := let ⟨a, c, h1, h2⟩ := h; ⟨a, c, h1, h2.ext e⟩
theorem widths_any (w : World) : Calls Try.prog 54 #[] w fun e w' => (∃ v, e = .returned v ∧ SlI .i64 5 Env.ws v w') ∧ Ext w w' := by
  go_enter Try.func54, Try.ntmps54
  go_wp2_with fail
  go_ret
  exact ⟨⟨_, rfl, _, _, rfl, ints_new w .i64 _ Env.ws rfl⟩, Ext.alloc _ _⟩
end Go.Proofs.Ytbnpldilkkhgmaa
