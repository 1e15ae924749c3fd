/- Contracts of ref12.Payload, and of both Links. -/
import Derived.Test.YtemhflafiephpaaRecL
import Derived.Test.YtemhflafiephpaaLendRW
import Derived.Test.YtemhflafiephpaaSumNew
import Derived.Test.YtemhflafiephpaaRefSum
namespace Go.Proofs.Ytemhflafiephpaa
open Go.RowKit
theorem ints_new2 {n : Nat} (w : World) (o : Obj) (k : IntKind) (T : TypeId) (xs : List Int) (h : xs.length = n) : Ints k ((w.alloc o).alloc (.cells (xs.map (Value.int k)).toArray T)) (some ⟨w.heap.size + 1, 0, none⟩) xs := by
  rw [← show (w.alloc o).heap.size = w.heap.size + 1 by simp]
  exact ints_new _ k T xs h
theorem refwrite_ok {vs : List Int} {ns : List Nat} {l : List UInt8} {v b : Value} {n : Nat} (hn : vs.length = n) (hm : ns.length = n) (hl : n ≤ 1000) (hb : Lend.bytes vs ns = some l) (hs : SmallN ns) (w : World) (hv : SlI .i64 n vs v w) (hb2 : SlI .u64 n (ns.map Int.ofNat) b w) :
    Calls Try.prog 48 #[v, b] w fun e w' => e = .returned (.tuple #[.string ⟨l.toArray⟩, .bool true]) ∧ Ext w w' := by
  obtain ⟨a, ca, rfl, hI⟩ := hv
  obtain ⟨b, cb, rfl, hJ⟩ := hb2
  subst hn
  have h := refwrite_any vs ns a b ca cb w hl hs hI hJ
  rw [hm, wAns_some hb] at h
  exact h
theorem payR_size (q c : Nat) (l : List Msg.Up) : (payR q c l).size ≤ 14 + 60 * l.length := by
  unfold payR
  split
  · rw [ByteArray.size_append, headT_size]
    have := text_le l
    have h2 : (⟨(Rec.text l).1.toArray⟩ : ByteArray).size = (Rec.text l).1.length := List.size_toArray
    omega
  · exact Nat.zero_le _
set_option maxRecDepth 100000 in
set_option maxHeartbeats 2000000 in
theorem refpayload_any (q c : Nat) (l : List Msg.Up) (a : Option Addr) (ca : Nat) (w : World) (hq : q < 18446744073709551616) (hc : c < 4294967296) (hl : l.length ≤ 1000) (hR : Recs w a l) (hS : ∀ u ∈ l, FitU u) :
    Calls Try.prog 32 #[.agg #[.int .u64 (q : Int), .int .u32 (c : Int), .slice a l.length ca]] w fun e w' => e = .returned (.tuple #[.string (payR q c l), .int .i64 ((Rec.text l).2 : Nat)]) ∧ Ext w w' := by
  have htx := fun w' (e : Ext w w') => reftext_any l a ca w' hl (hR.ext e) hS
  have hln := text_le l
  have hts : (⟨(Rec.text l).1.toArray⟩ : ByteArray).size = (Rec.text l).1.length := List.size_toArray
  have hts2 : (⟨(Rec.text l).1.toArray⟩ : ByteArray).size ≤ 60000 := by omega
  unfold payR
  clear hln hts hR hS
  have hsm : SmallN [q, c, l.length] := fun y hy => by
    simp at hy
    rcases hy with rfl | rfl | rfl <;> omega
  have hwr : ∀ (v b : Value) (w : World), SlI .i64 3 wsR v w → SlI .u64 3 ([q, c, l.length].map Int.ofNat) b w → Calls Try.prog 48 #[v, b] w fun e w' => e = .returned (.tuple #[.string (headT q c l.length), .bool true]) ∧ Ext w w' :=
    fun v b w => refwrite_ok (v := v) (b := b) (vs := wsR) (ns := [q, c, l.length]) (n := 3) rfl rfl (by decide) (headT_bytes hq hc (by omega)) hsm w
  have hhs := headT_size q c l.length
  generalize headT q c l.length = HT at *
  generalize (⟨(Rec.text l).1.toArray⟩ : ByteArray) = T at *
  generalize (Rec.text l).2 = E at *
  clear hsm
  have HTX := Lib.hid htx; have HWR := Lib.hid hwr
  clear htx hwr
  by_cases hE : E = 0
  · subst hE
    rw [if_pos rfl]
    have hw1 : IntKind.u64.wrap (c : Int) = (c : Int) := by rw [IntKind.wrap_u64]; omega
    have hw2 : IntKind.u64.wrap (l.length : Int) = (l.length : Int) := by rw [IntKind.wrap_u64]; omega
    have hqq : ¬ 9223372036854775807 < HT.size + T.size := by omega
    go_enter Try.func32, Try.ntmps32
    go_wp2_with fail
    refine (HTX.out _ (Ext.alloc _ _)).mono ?_
    rintro e w1 ⟨rfl, he1⟩
    have c0 := cell_ext (World.cell?_alloc_new w _ _ 0) he1
    have c1 := cell_ext (World.cell?_alloc_new w _ _ 1) he1
    have c2 := cell_ext (World.cell?_alloc_new w _ _ 2) he1
    replace he1 := (Ext.alloc w _).trans he1
    generalize w.heap.size = B0 at *
    go_upto_region 4 with (fail)
    replace c0 := fun o => cell_ext c0 (Ext.alloc w1 o)
    replace c1 := fun o => cell_ext c1 (Ext.alloc w1 o)
    replace c2 := fun o => cell_ext c2 (Ext.alloc w1 o)
    go_wp2_with fail
    refine (HWR.out _ _ _ ⟨_, _, rfl, (ints_new w1 .i64 _ wsR rfl).ext (Ext.alloc _ _)⟩ ⟨_, _, rfl, ints_new2 w1 _ .u64 _ ([q, c, l.length].map Int.ofNat) rfl⟩).mono ?_
    rintro e w2 ⟨rfl, he2⟩
    go_wp2_with fail
    go_ret2
    exact ⟨rfl, he1.trans ((Ext.alloc _ _).trans ((Ext.alloc _ _).trans he2))⟩
  · rw [if_neg hE]
    have hne : ((E : Int) != 0) = true := by simp; omega
    go_enter Try.func32, Try.ntmps32
    go_wp2_with fail
    refine (HTX.out _ (Ext.alloc _ _)).mono ?_
    rintro e w1 ⟨rfl, he1⟩
    go_wp2_with fail
    go_ret2
    exact ⟨rfl, (Ext.alloc _ _).trans he1⟩
/-- what the next record bears -/
def linkR (q c : Nat) (l : List Msg.Up) : Nat := if (Rec.text l).2 = 0 then Crc.sum (payR q c l).data.toList else 0
theorem link_nil (v : Value) (w : World) (q c : Int) : Calls Try.prog 39 #[.agg #[.int .u64 q, .int .u32 c, v], .pointer none] w fun e w' => e = .returned (.tuple #[.int .u32 0, .int .i64 1]) ∧ Ext w w' := by
  go_enter Try.func39, Try.ntmps39
  go_wp2_with fail
  go_ret2
  exact ⟨rfl, Ext.alloc _ _⟩
set_option maxRecDepth 100000 in
set_option maxHeartbeats 2000000 in
theorem link_any (b q c : Nat) (l : List Msg.Up) (a : Option Addr) (ca : Nat) (w : World) (ht : TabAt w b) (hq : q < 18446744073709551616) (hc : c < 4294967296) (hl : l.length ≤ 1000) (hR : Recs w a l) (hS : ∀ u ∈ l, FitU u) :
    Calls Try.prog 39 #[.agg #[.int .u64 (q : Int), .int .u32 (c : Int), .slice a l.length ca], .pointer (some ⟨b, 0, none⟩)] w fun e w' => e = .returned (.tuple #[.int .u32 (linkR q c l : Nat), .int .i64 ((Rec.text l).2 : Nat)]) ∧ Ext w w' := by
  have hpy := fun w' (e : Ext w w') => payload_any q c l a ca w' hq hc hl (hR.ext e) hS
  have hps := payR_size q c l
  unfold linkR
  generalize payR q c l = P at *
  generalize (Rec.text l).2 = E at *
  have HPY := Lib.hid hpy
  clear hpy hR hS
  by_cases hE : E = 0
  · subst hE
    rw [if_pos rfl]
    go_enter Try.func39, Try.ntmps39
    go_wp2_with fail
    refine (HPY.out _ (Ext.alloc _ _)).mono ?_
    rintro e w1 ⟨rfl, he1⟩
    replace he1 := (Ext.alloc w _).trans he1
    go_wp2_with fail
    refine (of_one_new b _ _ _ P w1 (ht.ext he1) (by unfold maxLen; omega) rfl).mono ?_
    rintro e w2 ⟨rfl, _, he2⟩
    go_wp2_with fail
    go_ret2
    exact ⟨rfl, he1.trans he2⟩
  · rw [if_neg hE]
    have hne : ((E : Int) != 0) = true := by simp; omega
    go_enter Try.func39, Try.ntmps39
    go_wp2_with fail
    refine (HPY.out _ (Ext.alloc _ _)).mono ?_
    rintro e w1 ⟨rfl, he1⟩
    go_wp2_with fail
    go_ret2
    exact ⟨rfl, (Ext.alloc _ _).trans he1⟩
set_option maxRecDepth 100000 in
set_option maxHeartbeats 2000000 in
theorem reflink_any (q c : Nat) (l : List Msg.Up) (a : Option Addr) (ca : Nat) (w : World) (hq : q < 18446744073709551616) (hc : c < 4294967296) (hl : l.length ≤ 1000) (hR : Recs w a l) (hS : ∀ u ∈ l, FitU u) :
    Calls Try.prog 41 #[.agg #[.int .u64 (q : Int), .int .u32 (c : Int), .slice a l.length ca]] w fun e w' => e = .returned (.tuple #[.int .u32 (linkR q c l : Nat), .int .i64 ((Rec.text l).2 : Nat)]) ∧ Ext w w' := by
  have hpy := fun w' (e : Ext w w') => refpayload_any q c l a ca w' hq hc hl (hR.ext e) hS
  have hps := payR_size q c l
  unfold linkR
  generalize payR q c l = P at *
  generalize (Rec.text l).2 = E at *
  have HPY := Lib.hid hpy
  clear hpy hR hS
  by_cases hE : E = 0
  · subst hE
    rw [if_pos rfl]
    have hof := fun w => refof_any P w (by unfold maxLen; omega)
    have hlt := Crc.sum_lt P.data.toList
    generalize Crc.sum P.data.toList = R at *
    have hwr : IntKind.u32.wrap (R : Int) = (R : Int) := by rw [IntKind.wrap_u32]; omega
    have HOF := Lib.hid hof
    clear hof
    go_enter Try.func41, Try.ntmps41
    go_wp2_with fail
    refine (HPY.out _ (Ext.alloc _ _)).mono ?_
    rintro e w1 ⟨rfl, he1⟩
    go_wp2_with fail
    refine (HOF.out _).mono ?_
    rintro e w2 ⟨rfl, rfl⟩
    go_wp2_with fail
    go_ret2
    exact ⟨rfl, (Ext.alloc _ _).trans he1⟩
  · rw [if_neg hE]
    have hne : ((E : Int) != 0) = true := by simp; omega
    go_enter Try.func41, Try.ntmps41
    go_wp2_with fail
    refine (HPY.out _ (Ext.alloc _ _)).mono ?_
    rintro e w1 ⟨rfl, he1⟩
    go_wp2_with fail
    go_ret2
    exact ⟨rfl, (Ext.alloc _ _).trans he1⟩
end Go.Proofs.Ytemhflafiephpaa
