/- Contract of rec.Text. -/
import Derived.Test.YtemhflafiephpaaRecC
namespace Go.Proofs.Ytemhflafiephpaa
open Go.RowKit
/-- an update's parts are values -/
def FitU (u : Msg.Up) : Prop := u.kind < 256 ∧ u.key.size ≤ maxLen ∧ u.value.size ≤ maxLen ∧ u.delta < 18446744073709551616
namespace Rec
theorem text_ok : ∀ {l : List Msg.Up}, (∀ u ∈ l, check u = 0) → text l = (l.flatMap bytes, 0)
  | [], _ => rfl
  | u :: l, h => by
    have ih := text_ok (l := l) fun v hv => h v (List.mem_cons_of_mem _ hv)
    unfold text
    rw [if_pos (h u List.mem_cons_self), ih]
    rfl
theorem text_bad : ∀ {l : List Msg.Up} {k : Nat} (hk : k < l.length), (∀ j (hj : j < l.length), j < k → check l[j] = 0) → check l[k] ≠ 0 → text l = ([], check l[k])
  | u :: l, 0, _, _, h2 => by
    unfold text
    rw [if_neg (by simpa using h2)]
    rfl
  | u :: l, k + 1, hk, h1, h2 => by
    have hk' : k < l.length := by simpa using hk
    have ih := text_bad hk' (fun j hj hjk => by have := h1 (j + 1) (by simpa using hj) (by omega); simpa using this) (by simpa using h2)
    have h0 : check u = 0 := h1 0 (by simp) (by omega)
    unfold text
    rw [if_pos h0, ih]
    simp only [List.getElem_cons_succ]
    rw [if_neg (by simpa using h2)]
theorem bytes_le {u : Msg.Up} (h : check u = 0) : (bytes u).length ≤ 60 := by
  obtain ⟨k, y, v, d⟩ := u
  obtain ⟨⟨_, h2, h3⟩, _⟩ := check_zero h
  have := bytes_length (k := k) (d := d) (y := y) (v := v)
  omega
theorem flat_take_succ {l : List Msg.Up} {k : Nat} (h : k < l.length) : (l.take (k + 1)).flatMap bytes = (l.take k).flatMap bytes ++ bytes l[k] := by
  rw [List.take_succ_eq_append_getElem h, List.flatMap_append]; simp
end Rec
theorem byteCells_add (a b : List UInt8) : Lib.byteCells a ++ Lib.strCells ⟨b.toArray⟩ = Lib.byteCells (a ++ b) := by
  simp [Lib.byteCells, Lib.strCells]
set_option maxRecDepth 100000 in
set_option maxHeartbeats 2000000 in
theorem text_any (l : List Msg.Up) (a : Option Addr) (ca : Nat) (w : World) (hl : l.length ≤ 1000) (hR : Recs w a l) (hS : ∀ u ∈ l, FitU u) :
    Calls Try.prog 29 #[.slice a l.length ca] w fun e w' => e = .returned (.tuple #[.string ⟨(Rec.text l).1.toArray⟩, .int .i64 ((Rec.text l).2 : Nat)]) ∧ Ext w w' := by
  obtain ⟨A, hA⟩ : ∃ A : Value, Value.tuple #[.string ⟨(Rec.text l).1.toArray⟩, .int .i64 ((Rec.text l).2 : Nat)] = A := ⟨_, rfl⟩
  rw [hA]
  have HA := Lib.hid hA; have HR := Lib.hid hR; have HS := Lib.hid hS
  clear hA hR hS
  have hb0 := Lib.hid (builder_new w)
  go_enter Try.func29, Try.ntmps29
  go_wp2_with fail
  go_loopw [10] (fun i wx => ∃ k : Nat, k ≤ l.length ∧ i = .int .i64 k ∧ (∀ j (hj : j < l.length), j < k → Rec.check l[j] = 0) ∧ ((l.take k).flatMap Rec.bytes).length ≤ 60 * k ∧ Lib.IsBuilder 108 5 w.heap.size w.heap.size (Lib.byteCells ((l.take k).flatMap Rec.bytes)) wx ∧ Ext w wx) (fun i _ => l.length - (intOf i).toNat)
  case atStart => exact ⟨0, by omega, rfl, fun j hj h => by omega, by simp, hb0.out, Ext.alloc _ _⟩
  case round =>
    obtain ⟨k, hk, rfl, hck, hln, hbd, hex⟩ := hrel
    have HC := Lib.hid hck; have HB := Lib.hid hbd
    clear hck hbd hb0
    by_cases hlt : k < l.length
    · obtain ⟨b1, o1, rfl, hc0, hc1, hc2, hc3⟩ := (HR.out.ext hex) k hlt
      obtain ⟨s1, s2, s3, s4⟩ := HS.out l[k] (by simp)
      have htk := Rec.flat_take_succ hlt
      by_cases h0 : Rec.check l[k] = 0
      · have hn2 : ∀ j (hj : j < l.length), j < k + 1 → Rec.check l[j] = 0 := fun j hj hjk => by
          by_cases hjk2 : j < k
          · exact HC.out j hj hjk2
          · obtain rfl : j = k := by omega
            exact h0
        have HN2 := Lib.hid hn2
        have hb60 := Rec.bytes_le h0
        have HTK := Lib.hid htk
        clear hn2 htk
        generalize l[k] = u at *
        obtain ⟨K, Y, V, D⟩ := u
        simp only at hc0 hc1 hc2 hc3 s1 s2 s3 s4
        obtain ⟨⟨_, z2, z3⟩, z4, _, _⟩ := check_zero h0
        have hck := fun w => check_any K D Y V w s1 s4 s2 s3
        rw [h0] at hck
        have hby := fun w => bytes_any K D Y V w s4 z2 z3 z4
        have HCK := Lib.hid hck; have HBY := Lib.hid hby
        clear hck hby h0
        generalize hL : (l.take k).flatMap Rec.bytes = L at *
        clear hL
        generalize Rec.bytes ⟨K, Y, V, D⟩ = Bz at *
        go_wp2_with fail
        refine (HCK.out _).mono ?_
        rintro e w1 ⟨rfl, he1⟩
        have c0 := cell_ext (World.cell?_alloc_new wr _ _ 0) he1
        have c1 := cell_ext (World.cell?_alloc_new wr _ _ 1) he1
        have c2 := cell_ext (World.cell?_alloc_new wr _ _ 2) he1
        have c3 := cell_ext (World.cell?_alloc_new wr _ _ 3) he1
        replace he1 := (Ext.alloc wr _).trans he1
        go_wp2_with fail
        refine (HBY.out _).mono ?_
        rintro e w2 ⟨rfl, he2⟩
        replace he2 := he1.trans he2
        have hbz : (⟨Bz.toArray⟩ : ByteArray).size = Bz.length := List.size_toArray
        go_wp2_with fail
        refine (writeString_any w.heap.size w.heap.size (Lib.byteCells L) ⟨Bz.toArray⟩ _ (IsBuilder_ext HB.out he2) (by rw [Lib.byteCells_length, hbz]; omega) (hex.trans he2).size).mono ?_
        rintro e w3 ⟨rfl, hb3, he3⟩
        rw [byteCells_add] at hb3
        have HB3 := Lib.hid hb3; clear hb3
        go_wp2_with fail
        go_roundw
        case rel => exact ⟨k + 1, by omega, by go_num, HN2.out, by rw [HTK.out, List.length_append]; omega, by rw [HTK.out]; exact .inr HB3.out, Below.trans (hex.trans he2) he3⟩
        case measure => simp [intOf]; omega
      · have hbad := Lib.hid (Rec.text_bad hlt HC.out h0)
        clear htk
        have HA2 := HA.out
        rw [hbad.out] at HA2
        generalize l[k] = u at *
        obtain ⟨K, Y, V, D⟩ := u
        simp only at hc0 hc1 hc2 hc3 s1 s2 s3 s4
        have hck := fun w => check_any K D Y V w s1 s4 s2 s3
        generalize Rec.check ⟨K, Y, V, D⟩ = c at *
        have hne : ((c : Int) != 0) = true := by simp; omega
        have HCK := Lib.hid hck; have HA3 := Lib.hid HA2
        clear hck HA2
        go_wp2_with fail
        refine (HCK.out _).mono ?_
        rintro e w1 ⟨rfl, he1⟩
        go_wp2_with fail
        go_ret2
        exact ⟨by rw [← HA3.out]; rfl, hex.trans ((Ext.alloc _ _).trans he1)⟩
    · obtain rfl : k = l.length := by omega
      have hall : ∀ u ∈ l, Rec.check u = 0 := fun u hu => by
        obtain ⟨j, hj, rfl⟩ := List.getElem_of_mem hu
        exact HC.out j hj hj
      have hok := Lib.hid (Rec.text_ok hall)
      have HA2 := HA.out
      rw [hok.out] at HA2
      have HA3 := Lib.hid HA2
      have hB2 := HB.out
      rw [List.take_length] at hB2
      have HB2 := Lib.hid hB2
      clear HA2 hB2 hall hln
      generalize l.flatMap Rec.bytes = L at *
      go_wp2_with fail
      refine (Try.Builder_String_any w.heap.size w.heap.size L _ HB2.out hex.size).mono ?_
      rintro e w3 ⟨rfl, he3⟩
      go_wp2_with fail
      go_ret2
      exact ⟨by rw [← HA3.out]; rfl, Below.trans hex he3⟩
end Go.Proofs.Ytemhflafiephpaa
