/- Contract of (rec.Record).Payload. -/
import Derived.Test.YtemhflafiephpaaRecH
namespace Go.Proofs.Ytemhflafiephpaa
open Go.RowKit
theorem ints_new {n : Nat} (w : World) (k : IntKind) (T : TypeId) (xs : List Int) (_ : xs.length = n) : Ints k (w.alloc (.cells (xs.map (Value.int k)).toArray T)) (some ⟨w.heap.size, 0, none⟩) xs := fun i hi =>
  ⟨w.heap.size, 0, rfl, by rw [World.cell?_alloc_new, Nat.zero_add]; simp [hi]⟩
/-- integers in a slice, as a value -/
def SlI (k : IntKind) (n : Nat) (xs : List Int) (v : Value) (w : World) : Prop := ∃ a c, v = .slice a n c ∧ Ints k w a xs
theorem SlI.ext {k : IntKind} {n : Nat} {xs : List Int} {v : Value} {w w' : World} (h : SlI k n xs v w) (e : Ext w w') : SlI k n xs v w' := let ⟨a, c, h1, h2⟩ := h; ⟨a, c, h1, h2.ext e⟩
theorem write_ok {vs : List Int} {ns : List Nat} {l : List UInt8} {v b : Value} {n : Nat} (hn : vs.length = n) (hm : ns.length = n) (hl : n ≤ 1000) (hb : Lend.bytes vs ns = some l) (hs : SmallN ns) (w : World) (hv : SlI .i64 n vs v w) (hb2 : SlI .u64 n (ns.map Int.ofNat) b w) :
    Calls Try.prog 43 #[v, b] w fun e w' => e = .returned (.tuple #[.string ⟨l.toArray⟩, .bool true]) ∧ Ext w w' := by
  obtain ⟨a, ca, rfl, hI⟩ := hv
  obtain ⟨b, cb, rfl, hJ⟩ := hb2
  subst hn
  have h := write_any vs ns a b ca cb w hl hs hI hJ
  rw [hm, wAns_some hb] at h
  exact h
def wsR : List Int := [8, 4, 2]
/-- a record's head -/
def headT (q c n : Nat) : ByteArray := ⟨(Lend.cat wsR [q, c, n]).toArray⟩
theorem headT_size (q c n : Nat) : (headT q c n).size = 14 := by
  show (Lend.cat wsR [q, c, n]).toArray.size = 14
  rw [List.size_toArray]; simp [wsR, Lend.cat, Lend.put_length]
theorem headT_bytes {q c n : Nat} (hq : q < 18446744073709551616) (hc : c < 4294967296) (hn : n < 65536) : Lend.bytes wsR [q, c, n] = some (Lend.cat wsR [q, c, n]) := by
  rw [Lend.bytes_eq rfl, if_pos]
  rw [Bool.and_eq_true]
  refine ⟨by decide, (Lend.fit_iff rfl).2 fun k h1 h2 => ?_⟩
  match k, h1 with
  | 0, _ => exact hq
  | 1, _ => exact hc
  | 2, _ => exact hn
theorem own_widthsR (w : World) : Calls Try.prog 51 #[] w fun e w' => (∃ v, e = .returned v ∧ SlI .i64 3 wsR v w') ∧ Ext w w' := by
  go_enter Try.func51, Try.ntmps51
  go_wp2_with fail
  go_ret
  exact ⟨⟨_, rfl, _, _, rfl, ints_new _ .i64 _ wsR rfl⟩, Ext.alloc _ _⟩
/-- a record's bytes -/
def payR (q c : Nat) (l : List Msg.Up) : ByteArray := if (Rec.text l).2 = 0 then headT q c l.length ++ ⟨(Rec.text l).1.toArray⟩ else ⟨#[]⟩
theorem text_le : ∀ (l : List Msg.Up), (Rec.text l).1.length ≤ 60 * l.length
  | [] => Nat.le_refl _
  | u :: l => by
    have ih := text_le l
    unfold Rec.text
    split
    · rename_i h0
      have hb := Rec.bytes_le h0
      split
      · simp only [List.length_append, List.length_cons]; omega
      · exact Nat.zero_le _
    · exact Nat.zero_le _
set_option maxRecDepth 100000 in
set_option maxHeartbeats 2000000 in
theorem payload_any (q c : Nat) (l : List Msg.Up) (a : Option Addr) (ca : Nat) (w : World) (hq : q < 18446744073709551616) (hc : c < 4294967296) (hl : l.length ≤ 1000) (hR : Recs w a l) (hS : ∀ u ∈ l, FitU u) :
    Calls Try.prog 38 #[.agg #[.int .u64 (q : Int), .int .u32 (c : Int), .slice a l.length ca]] w fun e w' => e = .returned (.tuple #[.string (payR q c l), .int .i64 ((Rec.text l).2 : Nat)]) ∧ Ext w w' := by
  have htx := fun w' (e : Ext w w') => text_any l a ca w' hl (hR.ext e) hS
  have hln := text_le l
  have hts : (⟨(Rec.text l).1.toArray⟩ : ByteArray).size = (Rec.text l).1.length := List.size_toArray
  have hts2 : (⟨(Rec.text l).1.toArray⟩ : ByteArray).size ≤ 60000 := by omega
  unfold payR
  clear hln hts hR hS
  have hsm : SmallN [q, c, l.length] := fun y hy => by
    simp at hy
    rcases hy with rfl | rfl | rfl <;> omega
  have hwr : ∀ (v b : Value) (w : World), SlI .i64 3 wsR v w → SlI .u64 3 ([q, c, l.length].map Int.ofNat) b w → Calls Try.prog 43 #[v, b] w fun e w' => e = .returned (.tuple #[.string (headT q c l.length), .bool true]) ∧ Ext w w' :=
    fun v b w => write_ok (v := v) (b := b) (vs := wsR) (ns := [q, c, l.length]) (n := 3) rfl rfl (by decide) (headT_bytes hq hc (by omega)) hsm w
  have hhs := headT_size q c l.length
  generalize headT q c l.length = HT at *
  generalize (⟨(Rec.text l).1.toArray⟩ : ByteArray) = T at *
  generalize (Rec.text l).2 = E at *
  clear hsm
  have HTX := Lib.hid htx; have HWR := Lib.hid hwr
  clear htx hwr
  by_cases hE : E = 0
  · subst hE
    rw [if_pos rfl]
    have hw1 : IntKind.u64.wrap (c : Int) = (c : Int) := by rw [IntKind.wrap_u64]; omega
    have hw2 : IntKind.u64.wrap (l.length : Int) = (l.length : Int) := by rw [IntKind.wrap_u64]; omega
    have hd : decide ((65535 : Int) < (l.length : Int)) = false := decide_eq_false (by omega)
    go_enter Try.func38, Try.ntmps38
    go_wp2_with fail
    refine (HTX.out _ (Ext.alloc _ _)).mono ?_
    rintro e w1 ⟨rfl, he1⟩
    have c0 := cell_ext (World.cell?_alloc_new w _ _ 0) he1
    have c1 := cell_ext (World.cell?_alloc_new w _ _ 1) he1
    have c2 := cell_ext (World.cell?_alloc_new w _ _ 2) he1
    replace he1 := (Ext.alloc w _).trans he1
    generalize w.heap.size = B0 at *
    go_wp2_with fail
    refine wp_region_drift_lit (n := 39) (by kernel_rfl) (by kernel_rfl) (by rfl) ?_
    refine chain_pred (SlI .i64 3 wsR) (fun _ _ _ e h => SlI.ext h e) ?_ ?_
    · intro w2 hx  K hK
      simp only [Act.put, List.setIfInBounds_toArray, List.set_cons_zero, List.set_cons_succ] at hK ⊢
      go_simp
      refine (own_widthsR _).mono ?_
      rintro e w3 ⟨⟨v, rfl, hv⟩, he3⟩
      exact hK _ _ he3 hv
    apply chain_val
    · intro w2 hx  K hK
      simp only [Act.put, List.setIfInBounds_toArray, List.set_cons_zero, List.set_cons_succ] at hK ⊢
      go_simp
      exact hK _ _ (Ext.refl _) rfl
    apply chain_val (.int .u64 (q : Int))
    · intro w2 hx  K hK
      simp only [Act.put, List.setIfInBounds_toArray, List.set_cons_zero, List.set_cons_succ] at hK ⊢
      have hc := cell_ext c0 hx
      go_simp
      exact hK _ _ (Ext.refl _) rfl
    apply chain_val
    · intro w2 hx  K hK
      simp only [Act.put, List.setIfInBounds_toArray, List.set_cons_zero, List.set_cons_succ] at hK ⊢
      go_simp
      exact hK _ _ (Ext.refl _) rfl
    apply chain_val (.int .u32 (c : Int))
    · intro w2 hx  K hK
      simp only [Act.put, List.setIfInBounds_toArray, List.set_cons_zero, List.set_cons_succ] at hK ⊢
      have hc := cell_ext c1 hx
      go_simp
      exact hK _ _ (Ext.refl _) rfl
    apply chain_val
    · intro w2 hx  K hK
      simp only [Act.put, List.setIfInBounds_toArray, List.set_cons_zero, List.set_cons_succ] at hK ⊢
      go_simp
      exact hK _ _ (Ext.refl _) rfl
    apply chain_val
    · intro w2 hx  K hK
      simp only [Act.put, List.setIfInBounds_toArray, List.set_cons_zero, List.set_cons_succ] at hK ⊢
      go_simp
      exact hK _ _ (Ext.refl _) rfl
    apply chain_val (.slice a l.length ca)
    · intro w2 hx  K hK
      simp only [Act.put, List.setIfInBounds_toArray, List.set_cons_zero, List.set_cons_succ] at hK ⊢
      have hc := cell_ext c2 hx
      go_simp
      exact hK _ _ (Ext.refl _) rfl
    apply chain_val
    · intro w2 hx  K hK
      simp only [Act.put, List.setIfInBounds_toArray, List.set_cons_zero, List.set_cons_succ] at hK ⊢
      go_simp
      exact hK _ _ (Ext.refl _) rfl
    apply chain_val
    · intro w2 hx  K hK
      simp only [Act.put, List.setIfInBounds_toArray, List.set_cons_zero, List.set_cons_succ] at hK ⊢
      go_simp
      exact hK _ _ (Ext.refl _) rfl
    refine chain_pred (SlI .u64 3 ([q, c, l.length].map Int.ofNat)) (fun _ _ _ e h => SlI.ext h e) ?_ ?_
    · intro w2 hx  K hK
      simp only [Act.put, List.setIfInBounds_toArray, List.set_cons_zero, List.set_cons_succ] at hK ⊢
      go_simp
      exact hK _ _ (Ext.alloc _ _) ⟨_, _, rfl, ints_new _ .u64 _ ([q, c, l.length].map Int.ofNat) rfl⟩
    apply chain_val (.tuple #[.string HT, .bool true])
    · intro w2 hx _ _ v10 h10 v0 h0 K hK
      simp only [Act.put, List.setIfInBounds_toArray, List.set_cons_zero, List.set_cons_succ] at hK ⊢
      go_simp
      refine (HWR.out _ _ _ h0 h10).mono ?_
      rintro e w3 ⟨rfl, he3⟩
      exact hK _ _ he3 rfl
    apply chain_val
    · intro w2 hx  K hK
      simp only [Act.put, List.setIfInBounds_toArray, List.set_cons_zero, List.set_cons_succ] at hK ⊢
      go_simp
      exact hK _ _ (Ext.refl _) rfl
    apply chain_val
    · intro w2 hx  K hK
      simp only [Act.put, List.setIfInBounds_toArray, List.set_cons_zero, List.set_cons_succ] at hK ⊢
      go_simp
      exact hK _ _ (Ext.refl _) rfl
    apply chain_val
    · intro w2 hx  K hK
      simp only [Act.put, List.setIfInBounds_toArray, List.set_cons_zero, List.set_cons_succ] at hK ⊢
      go_simp
      exact hK _ _ (Ext.refl _) rfl
    apply chain_val
    · intro w2 hx v0 h0 v10 h10 K hK
      simp only [Act.put, List.setIfInBounds_toArray, List.set_cons_zero, List.set_cons_succ] at hK ⊢
      go_simp
      exact hK _ _ (Ext.refl _) rfl
    apply chain_val
    · intro w2 hx v0 h0 v10 h10 K hK
      simp only [Act.put, List.setIfInBounds_toArray, List.set_cons_zero, List.set_cons_succ] at hK ⊢
      go_simp
      exact hK _ _ (Ext.refl _) rfl
    refine chain_end fun w2 hx => ?_
    simp only [List.reverse_cons, List.reverse_nil, List.nil_append, List.cons_append, withDeps, Act.put, List.setIfInBounds_toArray, List.set_cons_zero, List.set_cons_succ]
    intro v0 h0 v10 h10
    have hqq : ¬ 9223372036854775807 < HT.size + T.size := by omega
    go_wp2_with fail
    go_ret2
    exact ⟨rfl, he1.trans hx⟩
  · rw [if_neg hE]
    have hne : ((E : Int) != 0) = true := by simp; omega
    go_enter Try.func38, Try.ntmps38
    go_wp2_with fail
    refine (HTX.out _ (Ext.alloc _ _)).mono ?_
    rintro e w1 ⟨rfl, he1⟩
    go_wp2_with fail
    go_ret2
    exact ⟨rfl, (Ext.alloc _ _).trans he1⟩
end Go.Proofs.Ytemhflafiephpaa
