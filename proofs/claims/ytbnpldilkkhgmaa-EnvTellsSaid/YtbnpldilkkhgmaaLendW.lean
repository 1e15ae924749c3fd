/- The contract of lend.Write. Condition: up to 1000 widths and numbers. -/
import Derived.Test.YtbnpldilkkhgmaaLendA
import Derived.Test.YtbnpldilkkhgmaaOwn
namespace Go.Proofs.Ytbnpldilkkhgmaa
open Go.RowKit
def Nums (w : World) (a : Option Addr) (ns : List Nat) : Prop := Ints .u64 w a (ns.map Int.ofNat)
theorem Nums.at {w : World} {a : Option Addr} {ns : List Nat} (h : Nums w a ns) (i : Nat) (hi : i < ns.length) : ∃ b off, a = some ⟨b, off, none⟩ ∧ w.cell? ⟨b, off + i, none⟩ = some (.int .u64 (ns[i] : Int)) := by
  obtain ⟨b, off, h1, h2⟩ := h i (by simpa using hi)
  exact ⟨b, off, h1, by simpa using h2⟩
theorem Nums.ext {w w' : World} {a : Option Addr} {ns : List Nat} (h : Nums w a ns) (e : Ext w w') : Nums w' a ns := Ints.ext h e
def SmallN (ns : List Nat) : Prop := ∀ n ∈ ns, n < 18446744073709551616
namespace Lend
/-- what the first k numbers make -/
def cat : List Int → List Nat → List UInt8
  | w :: ws, n :: ns => put w.toNat n ++ cat ws ns
  | _, _ => []
theorem cat_length : ∀ (ws : List Int) (ns : List Nat), (cat ws ns).length ≤ total ws
  | [], _ => by simp [cat]
  | w :: ws, [] => by simp [cat]
  | w :: ws, n :: ns => by
    have := cat_length ws ns
    simp only [cat, List.length_append, put_length, total_cons]; omega
theorem cat_snoc : ∀ (ws : List Int) (ns : List Nat) (w : Int) (n : Nat), ws.length = ns.length → cat (ws ++ [w]) (ns ++ [n]) = cat ws ns ++ put w.toNat n
  | [], [], w, n, _ => by simp [cat]
  | x :: ws, y :: ns, w, n, h => by
    simp only [List.cons_append, cat, cat_snoc ws ns w n (by simpa using h), List.append_assoc]
  | [], _ :: _, _, _, h => by simp at h
  | _ :: _, [], _, _, h => by simp at h
theorem cat_take {ws : List Int} {ns : List Nat} {k : Nat} (h1 : k < ws.length) (h2 : k < ns.length) : cat (ws.take (k + 1)) (ns.take (k + 1)) = cat (ws.take k) (ns.take k) ++ put ws[k].toNat ns[k] := by
  rw [List.take_succ_eq_append_getElem h1, List.take_succ_eq_append_getElem h2, cat_snoc]
  simp; omega
/-- every number fits -/
def fit : List Int → List Nat → Bool
  | w :: ws, n :: ns => decide (n < 256 ^ w.toNat) && fit ws ns
  | _, _ => true
theorem fit_iff : ∀ {ws : List Int} {ns : List Nat}, ws.length = ns.length → (fit ws ns = true ↔ ∀ k (h1 : k < ws.length) (h2 : k < ns.length), ns[k] < 256 ^ ws[k].toNat)
  | [], [], _ => by simp [fit]
  | w :: ws, n :: ns, h => by
    have ih := fit_iff (ws := ws) (ns := ns) (by simpa using h)
    simp only [fit, Bool.and_eq_true, decide_eq_true_eq, ih]
    constructor
    · rintro ⟨h1, h2⟩ k hk1 hk2
      cases k with
      | zero => exact h1
      | succ k => exact h2 k (by simpa using hk1) (by simpa using hk2)
    · intro h9
      exact ⟨h9 0 (by simp) (by simp), fun k h1 h2 => h9 (k + 1) (by simpa using h1) (by simpa using h2)⟩
  | [], _ :: _, h => by simp at h
  | _ :: _, [], h => by simp at h
theorem bytes_eq : ∀ {ws : List Int} {ns : List Nat}, ws.length = ns.length → bytes ws ns = if ws.all okW && fit ws ns then some (cat ws ns) else none
  | [], [], _ => by simp [bytes, fit, cat]
  | w :: ws, n :: ns, h => by
    rw [bytes, bytes_eq (ws := ws) (ns := ns) (by simpa using h)]
    simp only [fit, List.all_cons, cat]
    by_cases h1 : okW w = true <;> by_cases h2 : n < 256 ^ w.toNat <;> by_cases h3 : ws.all okW = true <;> by_cases h4 : fit ws ns = true <;> simp [h1, h2, h3, h4]
  | [], _ :: _, h => by simp at h
  | _ :: _, [], h => by simp at h
theorem bytes_ne {ws : List Int} {ns : List Nat} (h : ws.length ≠ ns.length) : bytes ws ns = none := by
  induction ws generalizing ns with
  | nil => cases ns <;> simp_all [bytes]
  | cons w ws ih =>
    cases ns with
    | nil => rfl
    | cons n ns => rw [bytes, ih (by simpa using h)]; split <;> rfl
end Lend
/-- what lend.Write answers -/
def writeAns (r : Option (List UInt8)) : Value := match r with
  | some l => .tuple #[.string ⟨l.toArray⟩, .bool true]
  | none => .tuple #[.string ⟨#[]⟩, .bool false]
def wAns (ws : List Int) (ns : List Nat) : Value := writeAns (Lend.bytes ws ns)
theorem wAns_none {ws : List Int} {ns : List Nat} (h : Lend.bytes ws ns = none) : wAns ws ns = .tuple #[.string ⟨#[]⟩, .bool false] := by rw [wAns, h]; rfl
theorem wAns_some {ws : List Int} {ns : List Nat} {l : List UInt8} (h : Lend.bytes ws ns = some l) : wAns ws ns = .tuple #[.string ⟨l.toArray⟩, .bool true] := by rw [wAns, h]; rfl
set_option maxRecDepth 100000 in
set_option maxHeartbeats 2000000 in
theorem write_same (ws : List Int) (ns : List Nat) (a b : Option Addr) (ca cb : Nat) (w : World) (hl : ws.length ≤ 1000) (hn : ns.length = ws.length) (hall : ws.all Lend.okW = true) (hsm : SmallN ns)
    (hI : Ints .i64 w a ws) (hJ : Nums w b ns) :
    Calls Try.prog 44 #[.slice a ws.length ca, .slice b ns.length cb] w fun e w' => e = .returned (wAns ws ns) ∧ Ext w w' := by
  have hszl := Lend.size_le ws
  have htl := Lend.total_le hall
  go_enter Try.func44, Try.ntmps44
  have hne : ((ws.length : Int) != (ns.length : Int)) = false := by simp [hn]
  have HN := Lib.hid hn; clear hn
  have HA := Lib.hid hall; clear hall
  have HI := Lib.hid hI; have HJ := Lib.hid hJ
  clear hI hJ
  go_wp2_with fail
  refine (right_any ws _ _ _ hl HI.out).mono ?_
  rintro e w1 ⟨rfl, rfl⟩
  rw [HA.out]
  go_wp2_with fail
  refine (size_any ws _ _ _ hl HI.out).mono ?_
  rintro e w1 ⟨rfl, rfl⟩
  go_wp2_with fail
  obtain ⟨v, wr, hrun, hown, hext⟩ := make_cap w (Lend.size ws) (by omega)
  rw [hrun]
  clear hrun
  have HO := Lib.hid hown; clear hown
  go_wp2_with fail
  go_loopw [6, 25] (fun v i wx => ∃ k : Nat, k ≤ ws.length ∧ i = .int .i64 k ∧ OwnB wx w.heap.size v (Lend.cat (ws.take k) (ns.take k)) ∧ Ext w wx ∧ ∀ j (h1 : j < ws.length) (h2 : j < ns.length), j < k → ns[j] < 256 ^ ws[j].toNat) (fun _ i _ => ws.length - (intOf i).toNat)
  case atStart => exact ⟨0, by omega, rfl, HO.out, hext, fun j _ _ h => by omega⟩
  case round =>
    obtain ⟨k, hk, rfl, hown, hex, hfit⟩ := hrel
    have HOW := Lib.hid hown; have HF := Lib.hid hfit
    clear hown hfit
    have hBw : w.heap.size ≤ wr.heap.size := hex.size
    by_cases hlt : k < ws.length
    · have hltn : k < ns.length := by rw [HN.out]; exact hlt
      obtain ⟨b1, o1, rfl, hc1⟩ := (HI.out.ext hex) k hlt
      obtain ⟨b2, o2, rfl, hc2⟩ := (HJ.out.ext hex).at k hltn
      have ⟨l1, l2⟩ := Lend.okW_iff.1 (List.all_eq_true.1 HA.out ws[k] (by simp))
      have hnb : ns[k] < 18446744073709551616 := hsm _ (by simp)
      obtain ⟨x, hx⟩ : ∃ x : Nat, ws[k] = (x : Int) := ⟨ws[k].toNat, by omega⟩
      have hcat := Lib.hid (Lend.cat_take hlt hltn)
      have HX := Lib.hid hx
      obtain ⟨n, hnn⟩ : ∃ n, n = ns[k] := ⟨_, rfl⟩
      rw [hx] at hc1
      rw [← hnn] at hc2 hnb
      have HNN := Lib.hid hnn
      have hlen : (Lend.cat (ws.take k) (ns.take k)).length ≤ 8000 := by
        have h1 := Lend.cat_length (ws.take k) (ns.take k)
        have h2 := Lend.total_le (ws := ws.take k) (List.all_eq_true.2 fun z hz => List.all_eq_true.1 HA.out z (List.mem_of_mem_take hz))
        simp at h2; omega
      have hx8 : x ≤ 8 := by omega
      clear l1 l2 hx hnn
      go_wp2_with fail
      go_loopw [6, 9, 35] (fun v m i wx => ∃ j N : Nat, j ≤ x ∧ i = .int .i64 j ∧ m = .int .u64 N ∧ N = n / 256 ^ j ∧ OwnB wx w.heap.size v (Lend.cat (ws.take k) (ns.take k) ++ Lend.put j n) ∧ Ext w wx) (fun _ _ i _ => x - (intOf i).toNat)
      case atStart => exact ⟨0, n, by omega, rfl, rfl, by simp, by simpa [Lend.put] using HOW.out, hex⟩
      case round =>
        obtain ⟨j, N, hj, rfl, rfl, hN, hown, hex2⟩ := hrel
        have hNb : N < 18446744073709551616 := by rw [hN]; exact Nat.lt_of_le_of_lt (Nat.div_le_self _ _) hnb
        have HN2 := Lib.hid hN; have HO2 := Lib.hid hown
        clear hN hown
        by_cases hjx : j < x
        · have hsn := Lib.hid (Lend.put_snoc j n)
          have hwr : IntKind.u8.wrap (N : Int) = ((UInt8.ofNat (N % 256)).toNat : Int) := by rw [Lend.byte_toNat, IntKind.wrap_u8]; omega
          obtain ⟨u, hu⟩ : ∃ u, u = UInt8.ofNat (N % 256) := ⟨_, rfl⟩
          rw [← hu] at hwr
          have HU := Lib.hid hu; clear hu
          have hB2 : w.heap.size ≤ wr.heap.size := hex2.size
          have hlen2 : (Lend.cat (ws.take k) (ns.take k) ++ Lend.put j n).length ≤ 1000000 := by simp [Lend.put_length]; omega
          go_wp2_with (at_builtin; refine wpl_byte rfl _ _ rfl rfl HO2.out hB2 hlen2 rfl u ?_; intro v' w' ho hb; have HO3 := Lib.hid ho; clear ho)
          clear hwr
          go_roundw
          case rel =>
            refine ⟨j + 1, N / 256, by omega, by go_num, by go_num, by rw [HN2.out, Nat.div_div_eq_div_mul, Nat.pow_succ], ?_, Below.trans hex2 hb⟩
            have h9 := HO3.out
            have e : Lend.cat (ws.take k) (ns.take k) ++ Lend.put (j + 1) n = Lend.cat (ws.take k) (ns.take k) ++ Lend.put j n ++ [u] := by
              rw [hsn.out, HU.out, HN2.out, List.append_assoc]
            rw [e]; exact h9
          case measure => simp [intOf]; omega
        · obtain rfl : j = x := by omega
          have hdone : ns[k] < 256 ^ ws[k].toNat ↔ N = 0 := by
            rw [HN2.out, HX.out, ← HNN.out]
            simp only [Int.toNat_natCast]
            exact ⟨fun h => Nat.div_eq_of_lt h, fun h => by
              rcases Nat.lt_or_ge n (256 ^ j) with h' | h'
              · exact h'
              · have := Nat.div_pos h' (Nat.pow_pos (by decide)); omega⟩
          have HD := Lib.hid hdone; clear hdone
          by_cases hN0 : N = 0
          · subst hN0
            go_wp2_with fail
            go_roundw
            case rel =>
              refine ⟨k + 1, by omega, by go_num, ?_, hex2, fun m h1 h2 hm => ?_⟩
              · have h9 := HO2.out
                have e : Lend.cat (ws.take (k + 1)) (ns.take (k + 1)) = Lend.cat (ws.take k) (ns.take k) ++ Lend.put j n := by rw [hcat.out, HX.out, HNN.out]; rfl
                rw [e]; exact h9
              · by_cases hmk : m = k
                · subst hmk; exact HD.out.2 rfl
                · exact HF.out m h1 h2 (by omega)
            case measure => simp [intOf]; omega
          · have hne2 : ((N : Int) != 0) = true := by simp; omega
            have hfb : Lend.fit ws ns = false := by
              cases hf : Lend.fit ws ns with
              | false => rfl
              | true => exact absurd (HD.out.1 ((Lend.fit_iff HN.out.symm).1 hf k hlt hltn)) hN0
            have hans := Lib.hid (wAns_none (show Lend.bytes ws ns = none by rw [Lend.bytes_eq HN.out.symm, hfb, Bool.and_false]; rfl))
            clear hfb
            go_wp2_with fail
            go_ret2
            rw [hans.out]
            exact ⟨rfl, hex2⟩
    · obtain rfl : k = ws.length := by omega
      have hfb : Lend.fit ws ns = true := (Lend.fit_iff HN.out.symm).2 fun j h1 h2 => HF.out j h1 h2 h1
      have h9 := HOW.out
      rw [List.take_of_length_le (Nat.le_refl _), List.take_of_length_le (by rw [HN.out]; exact Nat.le_refl _)] at h9
      have hcv := conv_own h9
      have hans := Lib.hid (wAns_some (show Lend.bytes ws ns = some (Lend.cat ws ns) by rw [Lend.bytes_eq HN.out.symm, hfb, HA.out]; rfl))
      clear hfb h9
      go_wp2_with fail
      go_ret2
      rw [hans.out]
      exact ⟨rfl, hex⟩
/-- lend.Write, whatever it is given. -/
theorem write_any (ws : List Int) (ns : List Nat) (a b : Option Addr) (ca cb : Nat) (w : World) (hl : ws.length ≤ 1000) (hsm : SmallN ns)
    (hI : Ints .i64 w a ws) (hJ : Nums w b ns) :
    Calls Try.prog 44 #[.slice a ws.length ca, .slice b ns.length cb] w fun e w' => e = .returned (wAns ws ns) ∧ Ext w w' := by
  by_cases hn : ns.length = ws.length
  · cases hall : ws.all Lend.okW with
    | true => exact write_same ws ns a b ca cb w hl hn hall hsm hI hJ
    | false =>
      rw [wAns_none (show Lend.bytes ws ns = none by rw [Lend.bytes_eq hn.symm, hall]; rfl)]
      have hne : ((ws.length : Int) != (ns.length : Int)) = false := by simp [hn]
      have HN := Lib.hid hn; have HA := Lib.hid hall; have HI := Lib.hid hI
      clear hn hall hI hJ hsm
      go_enter Try.func44, Try.ntmps44
      go_wp2_with fail
      refine (right_any ws _ _ _ hl HI.out).mono ?_
      rintro e w1 ⟨rfl, rfl⟩
      rw [HA.out]
      go_wp2_with fail
      go_ret2
      exact ⟨rfl, Ext.refl _⟩
  · rw [wAns_none (Lend.bytes_ne (fun h => hn h.symm))]
    have hne : ((ws.length : Int) != (ns.length : Int)) = true := by simp; omega
    clear hn hI hJ hsm
    go_enter Try.func44, Try.ntmps44
    go_wp2_with fail
    go_ret2
    exact ⟨rfl, Ext.refl _⟩
end Go.Proofs.Ytbnpldilkkhgmaa
