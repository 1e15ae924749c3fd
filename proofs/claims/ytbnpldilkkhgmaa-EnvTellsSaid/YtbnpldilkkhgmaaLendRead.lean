/- The contract of lend.Read. Condition: up to 1000 widths. -/
import Derived.Test.YtbnpldilkkhgmaaLendRW
import Derived.Deep.RegionHeld3
namespace Go.Proofs.Ytbnpldilkkhgmaa
namespace Lend
open Go.Proofs.Ytbnpldilkkhgmaa.Crc (le)
/-- the numbers of bytes that are there -/
def cut : List Int → List UInt8 → List Nat
  | [], _ => []
  | w :: ws, s => le (s.take w.toNat) :: cut ws (s.drop w.toNat)
theorem cut_length : ∀ (ws : List Int) (s : List UInt8), (cut ws s).length = ws.length
  | [], _ => rfl
  | w :: ws, s => by simp [cut, cut_length ws]
theorem cut_snoc : ∀ (ws : List Int) (w : Int) (s : List UInt8), cut (ws ++ [w]) s = cut ws s ++ [le ((s.drop (total ws)).take w.toNat)]
  | [], w, s => by simp [cut, total]
  | x :: ws, w, s => by
    simp only [List.cons_append, cut, cut_snoc ws w, total_cons, List.drop_drop]
theorem cut_take {ws : List Int} {k : Nat} (h : k < ws.length) (s : List UInt8) : cut (ws.take (k + 1)) s = cut (ws.take k) s ++ [le ((s.drop (total (ws.take k))).take ws[k].toNat)] := by
  rw [List.take_succ_eq_append_getElem h, cut_snoc]
theorem nums_eq : ∀ (ws : List Int) (s : List UInt8), nums ws s = if ws.all okW && decide (total ws ≤ s.length) then some (cut ws s, s.drop (total ws)) else none
  | [], s => by simp [nums, cut, total]
  | w :: ws, s => by
    rw [nums, nums_eq ws]
    simp only [List.all_cons, total_cons, List.length_drop, cut]
    by_cases h1 : okW w = true <;> by_cases h2 : w.toNat ≤ s.length <;> by_cases h3 : ws.all okW = true <;> by_cases h4 : total ws ≤ s.length - w.toNat
    all_goals first
      | (have h5 : w.toNat + total ws ≤ s.length := by omega
         simp [h1, h2, h3, h4, h5, List.drop_drop])
      | (have h5 : ¬ w.toNat + total ws ≤ s.length := by omega
         simp [h1, h2, h3, h4, h5])
      | simp [h1, h2, h3, h4]
theorem le_take_succ {l : List UInt8} {j : Nat} (h : j < l.length) : le (l.take (j + 1)) = le (l.take j) + 256 ^ j * l[j].toNat := by
  induction l generalizing j with
  | nil => simp at h
  | cons c l ih =>
    cases j with
    | zero => simp [le]
    | succ j =>
      have := ih (j := j) (by simpa using h)
      simp only [List.take_succ_cons, le, this, List.getElem_cons_succ, Nat.pow_succ]
      rw [Nat.mul_add, Nat.add_assoc]
      congr 2
      rw [Nat.mul_comm (256 ^ j) 256, Nat.mul_assoc]
end Lend
open Go.RowKit
theorem or_byte (N c j : Nat) (hN : N < 256 ^ j) (hc : c < 256) (hj : j < 8) : bits .or .u64 (N : Int) (IntKind.u64.wrap ((c : Int) * 2 ^ (8 * j))) = ((N + 256 ^ j * c : Nat) : Int) := by
  have e : (2 : Int) ^ (8 * j) = ((256 ^ j : Nat) : Int) := by
    rw [Int.pow_mul]; simp
  have hp : 256 ^ j * 256 ≤ 18446744073709551616 := by
    have : 256 ^ (j + 1) ≤ 256 ^ 8 := Nat.pow_le_pow_right (by decide) (by omega)
    rw [Nat.pow_succ] at this; simpa using this
  have hcp : c * 256 ^ j < 18446744073709551616 := by
    have h1 : (c + 1) * 256 ^ j ≤ 256 * 256 ^ j := Nat.mul_le_mul_right _ (by omega)
    have h2 : 0 < 256 ^ j := Nat.pow_pos (by decide)
    rw [Nat.add_mul] at h1; omega
  have hNl : N < 18446744073709551616 := by
    have h2 : 0 < 256 ^ j := Nat.pow_pos (by decide)
    omega
  have e2 : IntKind.u64.wrap ((c : Int) * 2 ^ (8 * j)) = ((c * 256 ^ j : Nat) : Int) := by
    rw [e, ← Int.natCast_mul, IntKind.wrap_u64]
    omega
  rw [e2, u64_or_nat N _ hNl hcp]
  congr 1
  have e3 : (256 : Nat) ^ j = 2 ^ (8 * j) := by rw [Nat.pow_mul]
  rw [e3] at hN ⊢
  rw [Nat.or_comm, Nat.mul_comm c, ← Nat.two_pow_add_eq_or_of_lt hN, Nat.add_comm]
theorem read_no (ws : List Int) (s : ByteArray) (a : Option Addr) (ca : Nat) (w : World) (hl : ws.length ≤ 1000) (hI : Ints .i64 w a ws) (hno : Lend.nums ws s.data.toList = none) :
    Calls Try.prog 47 #[.slice a ws.length ca, .string s] w fun e w' => e = .returned (.tuple #[.slice none 0 0, .string ⟨#[]⟩, .bool false]) ∧ Ext w w' := by
  have HI := Lib.hid hI; clear hI
  cases hall : ws.all Lend.okW with
  | false =>
    have HA := Lib.hid hall
    clear hno hall
    go_enter Try.func47, Try.ntmps47
    go_wp2_with fail
    refine (right_any ws _ _ _ hl HI.out).mono ?_
    rintro e w1 ⟨rfl, rfl⟩
    rw [HA.out]
    go_wp2_with fail
    go_ret3
    exact ⟨rfl, Ext.refl _⟩
  | true =>
    have hlt : s.size < Lend.size ws := by
      rw [Lend.nums_eq, hall] at hno
      rw [Lend.size, if_pos hall]
      simpa using hno
    have hd : decide (s.size < Lend.size ws) = true := decide_eq_true hlt
    have HA := Lib.hid hall
    clear hno hall hlt
    go_enter Try.func47, Try.ntmps47
    go_wp2_with fail
    refine (right_any ws _ _ _ hl HI.out).mono ?_
    rintro e w1 ⟨rfl, rfl⟩
    rw [HA.out]
    go_wp2_with fail
    refine (size_any ws _ _ _ hl HI.out).mono ?_
    rintro e w1 ⟨rfl, rfl⟩
    go_wp2_with fail
    go_ret3
    exact ⟨rfl, Ext.refl _⟩
set_option maxRecDepth 100000 in
set_option maxHeartbeats 2000000 in
theorem read_yes (ws : List Int) (s : ByteArray) (a : Option Addr) (ca : Nat) (w : World) (hl : ws.length ≤ 1000) (hs : s.size ≤ maxLen) (hI : Ints .i64 w a ws) (hall : ws.all Lend.okW = true) (htot : Lend.total ws ≤ s.size) :
    Calls Try.prog 47 #[.slice a ws.length ca, .string s] w fun e w' => ∃ v rest, e = .returned (.tuple #[v, .string rest, .bool true]) ∧ rest.data.toList = s.data.toList.drop (Lend.total ws) ∧ OwnN w' w.heap.size v (Lend.cut ws s.data.toList) ∧ Ext w w' := by
  unfold maxLen at hs
  have hsz : Lend.size ws = Lend.total ws := by rw [Lend.size, if_pos hall]
  have hd : decide (s.size < Lend.total ws) = false := decide_eq_false (by omega)
  have HA := Lib.hid hall; have HS := Lib.hid hsz; have HI := Lib.hid hI
  clear hall hsz hI
  go_enter Try.func47, Try.ntmps47
  go_wp2_with fail
  refine (right_any ws _ _ _ hl HI.out).mono ?_
  rintro e w1 ⟨rfl, rfl⟩
  rw [HA.out]
  go_wp2_with fail
  refine (size_any ws _ _ _ hl HI.out).mono ?_
  rintro e w1 ⟨rfl, rfl⟩
  rw [HS.out]
  go_wp2_with fail
  clear hd
  go_loopw [1, 7, 24] (fun cs v i wx => ∃ (k : Nat) (cur : ByteArray), k ≤ ws.length ∧ i = .int .i64 k ∧ cs = .string cur ∧ cur.data.toList = s.data.toList.drop (Lend.total (ws.take k)) ∧ OwnN wx w.heap.size v (Lend.cut (ws.take k) s.data.toList) ∧ Ext w wx) (fun _ _ i _ => ws.length - (intOf i).toNat)
  case atStart => exact ⟨0, s, by omega, rfl, rfl, by simp [Lend.total], World.ownsRow_nil _ _ _ _, Ext.refl _⟩
  case round =>
    obtain ⟨k, cur, hk, rfl, rfl, hcur, hown, hex⟩ := hrel
    by_cases hlt : k < ws.length
    · obtain ⟨b1, o1, rfl, hc1⟩ := (HI.out.ext hex) k hlt
      have ⟨l1, l2⟩ := Lend.okW_iff.1 (List.all_eq_true.1 HA.out ws[k] (by simp))
      obtain ⟨x, hx⟩ : ∃ x : Nat, ws[k] = (x : Int) := ⟨ws[k].toNat, by omega⟩
      have htk := Lend.total_take_succ hlt
      have hct := Lend.cut_take hlt s.data.toList
      rw [hx] at hc1 htk hct
      simp only [Int.toNat_natCast] at htk hct
      have htt : Lend.total (ws.take (k + 1)) ≤ Lend.total ws := by
        have := Lend.total_append (ws.take (k + 1)) (ws.drop (k + 1))
        rw [List.take_append_drop] at this; omega
      have hcs : cur.size = s.size - Lend.total (ws.take k) := by
        have := congrArg List.length hcur
        simpa using this
      have hxc : x ≤ cur.size := by omega
      have hx8 : x ≤ 8 := by omega
      have hcm : cur.size ≤ 9223372036854775807 := by omega
      have HC := Lib.hid hcur; have HO := Lib.hid hown; have HX := Lib.hid hx; have HTK := Lib.hid htk; have HCT := Lib.hid hct
      clear hcur hown hx htk hct htt hcs l1 l2
      go_wp2_with fail
      go_loopw [10, 29] (fun m i wx => ∃ j N : Nat, j ≤ x ∧ i = .int .i64 j ∧ m = .int .u64 N ∧ N = Crc.le (cur.data.toList.take j) ∧ wx = wr) (fun _ i _ => x - (intOf i).toNat)
      case atStart => exact ⟨0, 0, by omega, rfl, rfl, by simp [Crc.le], rfl⟩
      case round =>
        obtain ⟨j, N, hj, rfl, rfl, hN, rfl⟩ := hrel
        by_cases hjx : j < x
        · have hjc : j < cur.size := by omega
          have hcb := cur[j].toNat_lt
          have hNl : N < 256 ^ j := by
            have := Lend.le_lt (cur.data.toList.take j)
            rw [← hN] at this
            have e : (cur.data.toList.take j).length = j := by simp; omega
            rwa [e] at this
          have hor := or_byte N cur[j].toNat j hNl hcb (by omega)
          have hst := Lend.le_take_succ (l := cur.data.toList) (j := j) (by simpa using hjc)
          rw [← hN] at hst
          have hst' : Crc.le (cur.data.toList.take (j + 1)) = N + 256 ^ j * cur[j].toNat := hst
          have HN := Lib.hid hN; have HST := Lib.hid hst'
          clear hN hNl hst hst'
          go_wp2_with fail
          go_roundw
          case rel => exact ⟨j + 1, _, by omega, by go_num, rfl, HST.out.symm, trivial⟩
          case measure => simp [intOf]; omega
        · obtain rfl : j = x := by omega
          have HN := Lib.hid hN; clear hN
          go_wp2_with fail
          have hB2 : w.heap.size ≤ wr.heap.size := hex.size
          have hln : (Lend.cut (ws.take k) s.data.toList).length ≤ 1000000 := by rw [Lend.cut_length]; simp; omega
          go_region_held3 (fun _ => True) (exact trivial) ((refine step_num rfl _ _ rfl rfl (l := Lend.cut (ws.take k) s.data.toList) rfl N (HO.out.alloc _) (by simp; omega) hln (by exact World.cell?_alloc_new _ _ _ _) ?_; intro v' w' ho hb; have HO2 := Lib.hid ho; clear ho))
          go_wp2_with fail
          go_roundw
          case rel =>
            refine ⟨k + 1, cur.extract j cur.size, by omega, by go_num, rfl, ?_, ?_, ?_⟩
            · rw [ext_data, List.take_of_length_le (by simp), HC.out, List.drop_drop, HTK.out]
            · have h9 := HO2.out
              rw [HCT.out, ← HC.out, ← HN.out]
              exact h9
            · exact Below.trans (Below.drew (hex.trans (Ext.alloc _ _))) hb
          case measure => simp [intOf]; omega
    · obtain rfl : k = ws.length := by omega
      rw [List.take_of_length_le (Nat.le_refl _)] at hcur hown
      have HC := Lib.hid hcur; have HO := Lib.hid hown
      clear hcur hown
      go_wp2_with fail
      go_ret3
      exact ⟨_, cur, rfl, HC.out, HO.out, hex⟩
/-- the numbers that a slice of the call's own holds, as arguments -/
theorem own_nums {w : World} {B : Nat} {v : Value} {xs : List Nat} (h : OwnN w B v xs) : ∃ a cap, v = .slice a xs.length cap ∧ Nums w a xs := by
  obtain ⟨_, ⟨rfl, hn⟩ | ⟨g, cap, cur, rfl, _, hg, _, _, _, ht⟩⟩ := h
  · have : xs = [] := List.length_eq_zero_iff.1 hn
    subst this
    exact ⟨none, 0, rfl, fun i hi => by simp at hi⟩
  · refine ⟨_, cap, rfl, fun i hi => ⟨g, 0, rfl, ?_⟩⟩
    have hi' : i < xs.length := by simpa using hi
    rw [Nat.zero_add, cell_of_row w g i cur 22 (0, 0) hg]
    have e : (cur.toList.take (xs.length * 1))[i]? = some (.int .u64 (xs[i] : Int)) := by rw [ht]; simp [hi']
    rw [List.getElem?_take] at e
    simpa [hi'] using e
/-- what Read answers, as a post -/
def ReadPost (ws : List Int) (s : ByteArray) (w : World) (e : Ending) (w' : World) : Prop :=
  Ext w w' ∧ match Lend.nums ws s.data.toList with
  | none => e = .returned (.tuple #[.slice none 0 0, .string ⟨#[]⟩, .bool false])
  | some p => ∃ v, e = .returned (.tuple #[v, .string ⟨p.2.toArray⟩, .bool true]) ∧ OwnN w' w.heap.size v p.1
theorem readPost_none {ws : List Int} {s : ByteArray} {w w' : World} {e : Ending} (h : Lend.nums ws s.data.toList = none) (hp : ReadPost ws s w e w') : e = .returned (.tuple #[.slice none 0 0, .string ⟨#[]⟩, .bool false]) ∧ Ext w w' := by
  unfold ReadPost at hp; rw [h] at hp; exact ⟨hp.2, hp.1⟩
theorem readPost_some {ws : List Int} {s : ByteArray} {w w' : World} {e : Ending} {ns : List Nat} {r : List UInt8} (h : Lend.nums ws s.data.toList = some (ns, r)) (hp : ReadPost ws s w e w') :
    ∃ a cap, e = .returned (.tuple #[.slice a ns.length cap, .string ⟨r.toArray⟩, .bool true]) ∧ Nums w' a ns ∧ Ext w w' := by
  unfold ReadPost at hp; rw [h] at hp
  obtain ⟨v, h1, h2⟩ := hp.2
  obtain ⟨a, cap, rfl, h3⟩ := own_nums h2
  exact ⟨a, cap, h1, h3, hp.1⟩
theorem read_any (ws : List Int) (s : ByteArray) (a : Option Addr) (ca : Nat) (w : World) (hl : ws.length ≤ 1000) (hs : s.size ≤ maxLen) (hI : Ints .i64 w a ws) :
    Calls Try.prog 47 #[.slice a ws.length ca, .string s] w fun e w' => ReadPost ws s w e w' := by
  cases hn : Lend.nums ws s.data.toList with
  | none => exact (read_no ws s a ca w hl hI hn).mono fun e w' ⟨h1, h2⟩ => by unfold ReadPost; rw [hn]; exact ⟨h2, h1⟩
  | some p =>
    have hc : ws.all Lend.okW = true ∧ Lend.total ws ≤ s.size ∧ p = (Lend.cut ws s.data.toList, s.data.toList.drop (Lend.total ws)) := by
      rw [Lend.nums_eq] at hn
      split at hn
      · rename_i h
        rw [Bool.and_eq_true, decide_eq_true_eq] at h
        exact ⟨h.1, by simpa using h.2, (Option.some.inj hn).symm⟩
      · cases hn
    obtain ⟨h1, h2, rfl⟩ := hc
    refine (read_yes ws s a ca w hl hs hI h1 h2).mono fun e w' ⟨v, rest, h3, h4, h5, h6⟩ => ?_
    unfold ReadPost
    rw [hn]
    refine ⟨h6, v, ?_, h5⟩
    have e : rest = ⟨(s.data.toList.drop (Lend.total ws)).toArray⟩ := bytes_ext h4
    rw [h3, e]
end Go.Proofs.Ytbnpldilkkhgmaa
