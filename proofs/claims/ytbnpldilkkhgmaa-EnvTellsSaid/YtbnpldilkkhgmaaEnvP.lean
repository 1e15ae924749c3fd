/- An image of which one byte is another one is none; unlike heads or payloads have unlike images. -/
import Derived.Test.YtbnpldilkkhgmaaEnvL
namespace Go.Proofs.Ytbnpldilkkhgmaa
open Go.RowKit
namespace Env
theorem mul_xor_shift (a x n : Nat) : 2 ^ 8 * (a ^^^ x <<< n) = 2 ^ 8 * a ^^^ x <<< (n + 8) := by
  apply Nat.eq_of_testBit_eq
  intro i
  rw [Nat.testBit_two_pow_mul, Nat.testBit_xor, Nat.testBit_xor, Nat.testBit_two_pow_mul, Nat.testBit_shiftLeft, Nat.testBit_shiftLeft]
  have e : i - 8 - n = i - (n + 8) := by omega
  rw [e]
  by_cases h8 : 8 ≤ i
  · by_cases h9 : n + 8 ≤ i
    · simp [h8, h9, show n ≤ i - 8 by omega]
    · simp [h8, h9, show ¬ n ≤ i - 8 by omega]
  · simp [h8, show ¬ n + 8 ≤ i by omega]
theorem le_set_byte : ∀ (l : List UInt8) (q x : Nat) (u : UInt8) (hq : q < l.length), u.toNat = l[q].toNat ^^^ x → Crc.le (l.set q u) = Crc.le l ^^^ (x <<< (8 * q))
  | c :: l, 0, x, u, _, h => by
    rw [List.set_cons_zero, Crc.le_cons, Crc.le_cons, h]
    simp only [List.getElem_cons_zero, Nat.mul_zero, Nat.shiftLeft_zero]
    rw [Nat.xor_assoc, Nat.xor_comm x, ← Nat.xor_assoc]
  | c :: l, q + 1, x, u, hq, h => by
    have hq' : q < l.length := by simpa using hq
    have ih := le_set_byte l q x u hq' (by simpa using h)
    rw [List.set_cons_succ, Crc.le_cons, Crc.le_cons, ih, Nat.xor_assoc, mul_xor_shift]
    rfl
/-- one byte another one: another check -/
theorem sum_set {l : List UInt8} {q : Nat} {u : UInt8} (hq : q < l.length) (hu : u ≠ l[q]) : Crc.sum (l.set q u) ≠ Crc.sum l := by
  have hx : u.toNat ^^^ l[q].toNat < 256 := Nat.xor_lt_two_pow (n := 8) u.toNat_lt l[q].toNat_lt
  refine Crc.burst_ne (bits := u.toNat ^^^ l[q].toNat) (f := 8 * q) (by simp) (by omega) (fun h => hu ?_) (by omega) (le_set_byte l q _ u hq ?_)
  · refine UInt8.toNat_inj.1 (Nat.eq_of_testBit_eq fun i => ?_)
    have h9 : (u.toNat ^^^ l[q].toNat).testBit i = false := by rw [h]; simp
    rw [Nat.testBit_xor] at h9
    simpa using h9
  · rw [← Nat.xor_assoc, Nat.xor_comm l[q].toNat, Nat.xor_assoc, Nat.xor_self, Nat.xor_zero]
/-- noughts in the place of the check -/
def zero4 (l : List UInt8) : List UInt8 := (((l.set 20 0).set 21 0).set 22 0).set 23 0
theorem zero4_set (l : List UInt8) (i : Nat) (u : UInt8) (h : i < 20 ∨ 24 ≤ i) : zero4 (l.set i u) = (zero4 l).set i u := by
  unfold zero4
  rw [List.set_comm _ _ (by omega : i ≠ 20), List.set_comm _ _ (by omega : i ≠ 21), List.set_comm _ _ (by omega : i ≠ 22), List.set_comm _ _ (by omega : i ≠ 23)]
theorem zero4_in (l : List UInt8) (i : Nat) (u : UInt8) (h : 20 ≤ i) (h2 : i < 24) : zero4 (l.set i u) = zero4 l := by
  unfold zero4
  rcases (by omega : i = 20 ∨ i = 21 ∨ i = 22 ∨ i = 23) with rfl | rfl | rfl | rfl
  · rw [List.set_set]
  · rw [List.set_comm (l := l) _ _ (by decide : 21 ≠ 20), List.set_set]
  · rw [List.set_comm (l := l) _ _ (by decide : 22 ≠ 20), List.set_comm _ _ (by decide : 22 ≠ 21), List.set_set]
  · rw [List.set_comm (l := l) _ _ (by decide : 23 ≠ 20), List.set_comm _ _ (by decide : 23 ≠ 21), List.set_comm _ _ (by decide : 23 ≠ 22), List.set_set]
theorem zero4_app {a b c : List UInt8} (ha : a.length = 20) (hb : b.length = 4) : zero4 (a ++ b ++ c) = a ++ [0, 0, 0, 0] ++ c := by
  obtain ⟨b0, b1, b2, b3, rfl⟩ : ∃ b0 b1 b2 b3, b = [b0, b1, b2, b3] := by
    match b, hb with
    | [b0, b1, b2, b3], _ => exact ⟨b0, b1, b2, b3, rfl⟩
  unfold zero4
  rw [List.append_assoc, List.append_assoc]
  have e : ∀ (j : Nat) (x : UInt8) (l : List UInt8), (a ++ l).set (20 + j) x = a ++ l.set j x := fun j x l => by
    rw [List.set_append_right _ _ (by omega)]; congr 2; omega
  rw [show (20 : Nat) = 20 + 0 from rfl, e 0, show (21 : Nat) = 20 + 1 from rfl, e 1, show (22 : Nat) = 20 + 2 from rfl, e 2, show (23 : Nat) = 20 + 3 from rfl, e 3]
  rfl
theorem img_zero4 (size : Nat) (h : Hd) (p : List UInt8) (c : Nat) : zero4 (img size h p c) = img size h p 0 := by
  have h20 : (magic ++ Lend.cat ws (nums h p.length)).length = 20 := by rw [List.length_append, cat_len]; rfl
  unfold img
  rw [List.append_assoc (_ ++ Lend.put 4 c), zero4_app h20 (Lend.put_length 4 c), List.append_assoc (_ ++ Lend.put 4 0)]
  rfl
theorem img_check (size : Nat) (h : Hd) (p : List UInt8) (c : Nat) : ((img size h p c).drop 20).take 4 = Lend.put 4 c := by
  have h20 : (magic ++ Lend.cat ws (nums h p.length)).length = 20 := by rw [List.length_append, cat_len]; rfl
  unfold img
  rw [List.append_assoc (_ ++ Lend.put 4 c), List.append_assoc, List.drop_left' h20, List.take_left' (Lend.put_length 4 c)]
theorem put_inj {w c d : Nat} (hc : c < 256 ^ w) (hd : d < 256 ^ w) (h : Lend.put w c = Lend.put w d) : c = d := by
  have h9 := congrArg Crc.le h
  rw [Lend.le_put, Lend.le_put, Nat.mod_eq_of_lt hc, Nat.mod_eq_of_lt hd] at h9
  exact h9
/-- an image of which one byte is another one is no image with its check -/
theorem turned_no {size : Nat} {h h' : Hd} {p p' : List UInt8} {c c' i : Nat} {u : UInt8} (hc : c = Crc.sum (img size h p 0)) (hc' : c' = Crc.sum (img size h' p' 0)) (hi : i < (img size h p c).length) (hu : u ≠ (img size h p c)[i])
    (e : img size h' p' c' = (img size h p c).set i u) : False := by
  have hl : (img size h p 0).length = (img size h p c).length := by rw [← img_zero4 size h p c]; simp [zero4]
  have hz := congrArg zero4 e
  rw [img_zero4] at hz
  by_cases hin : 20 ≤ i ∧ i < 24
  · rw [zero4_in _ _ _ hin.1 hin.2, img_zero4] at hz
    have hcc : c' = c := by rw [hc, hc', hz]
    subst hcc
    have h1 : img size h' p' c' = img size h p c' := by
      have h2 := congrArg (fun l => l.take 20 ++ Lend.put 4 c' ++ l.drop 24) hz
      have h3 : ∀ (h : Hd) (p : List UInt8), (img size h p 0).take 20 ++ Lend.put 4 c' ++ (img size h p 0).drop 24 = img size h p c' := fun h p => by
        have h20 : (magic ++ Lend.cat ws (nums h p.length)).length = 20 := by rw [List.length_append, cat_len]; rfl
        have h24 : (magic ++ Lend.cat ws (nums h p.length) ++ Lend.put 4 0).length = 24 := by rw [List.length_append, h20, Lend.put_length]
        unfold img
        rw [List.append_assoc (_ ++ Lend.put 4 0), List.drop_left' h24, List.append_assoc _ (Lend.put 4 0), List.take_left' h20]
        simp
      simp only [h3] at h2
      exact h2
    rw [h1] at e
    have h9 := congrArg (fun l => l[i]?) e
    simp only [List.getElem?_set_self hi, List.getElem?_eq_getElem hi, Option.some.injEq] at h9
    exact hu h9.symm
  · rw [zero4_set _ _ _ (by omega), img_zero4] at hz
    have hk := congrArg (fun l => (l.drop 20).take 4) e
    simp only [img_check] at hk
    have hs : (((img size h p c).set i u).drop 20).take 4 = ((img size h p c).drop 20).take 4 := by
      rcases (by omega : i < 20 ∨ 24 ≤ i) with h1 | h1
      · rw [List.drop_set, if_pos h1]
      · rw [List.drop_set, if_neg (by omega), List.take_set_of_le (by omega)]
    rw [hs, img_check] at hk
    have hcc : c' = c := put_inj (by rw [hc']; exact Crc.sum_lt _) (by rw [hc]; exact Crc.sum_lt _) hk
    have hg : (img size h p 0)[i]'(by omega) = (img size h p c)[i] := by
      have h1 : ∀ j, (j < 20 ∨ 24 ≤ j) → (zero4 (img size h p c))[j]? = (img size h p c)[j]? := fun j hj => by
        unfold zero4
        rw [List.getElem?_set_ne (by omega), List.getElem?_set_ne (by omega), List.getElem?_set_ne (by omega), List.getElem?_set_ne (by omega)]
      have h2 := h1 i (by omega)
      rw [img_zero4, List.getElem?_eq_getElem (by omega), List.getElem?_eq_getElem hi] at h2
      exact Option.some.inj h2
    have := sum_set (l := img size h p 0) (q := i) (u := u) (by omega) (by rw [hg]; exact hu)
    apply this
    rw [← hz, ← hc', hcc, hc]
end Env
/-- an image that was sealed, with one byte of it another one: Open tells an error -/
theorem open_turned {k X g i : Nat} {p : ByteArray} {u : UInt8} (hs : 24 + p.size ≤ 128) (hi : i < (imgT 128 ⟨k, (X : Int), g⟩ p (sumT 128 ⟨k, X, g⟩ p)).data.toList.length) (hu : u ≠ (imgT 128 ⟨k, (X : Int), g⟩ p (sumT 128 ⟨k, X, g⟩ p)).data.toList[i]) :
    ∃ e : Int, openAns ⟨((imgT 128 ⟨k, (X : Int), g⟩ p (sumT 128 ⟨k, X, g⟩ p)).data.toList.set i u).toArray⟩ = .tuple #[.agg hdZ, .string ⟨#[]⟩, .int .i64 e] ∧ (e = 4 ∨ e = 5) := by
  have hsz := imgT_size (size := 128) (h := ⟨k, (X : Int), g⟩) (c := sumT 128 ⟨k, X, g⟩ p) hs
  obtain ⟨S, hS⟩ : ∃ S : ByteArray, S = ⟨((imgT 128 ⟨k, (X : Int), g⟩ p (sumT 128 ⟨k, X, g⟩ p)).data.toList.set i u).toArray⟩ := ⟨_, rfl⟩
  rw [← hS]
  have hl : S.data.toList = (imgT 128 ⟨k, (X : Int), g⟩ p (sumT 128 ⟨k, X, g⟩ p)).data.toList.set i u := by rw [hS]
  have hS1 : S.size = 128 := by
    rw [hS]
    show (List.toArray _).size = 128
    rw [List.size_toArray, List.length_set, Array.length_toList]
    exact hsz
  rcases open_cases S with ⟨k', X', g', p', c', hq, _, _, hme⟩ | ⟨e, h1, h2, _⟩
  · exfalso
    have hm := hme (X' : Int) g' c'
    unfold meetsB at hm
    rw [hq, hS1] at hm
    simp only [BEq.rfl, Bool.and_self] at hm
    split at hm
    · rename_i h1
      split at hm
      · rename_i h2
        rw [← h1] at hl
        rw [imgT_list, imgT_list] at hl
        exact Env.turned_no rfl h2.symm hi hu hl
      · cases hm
    · cases hm
  · exact ⟨e, h1, h2⟩
theorem img_inj {k X g k' X' g' : Nat} {p p' : ByteArray} (hok : Env.okHead ⟨k, X, g⟩ = true) (hg : g < 18446744073709551616) (hs : 24 + p.size ≤ 128) (hok' : Env.okHead ⟨k', X', g'⟩ = true) (hg' : g' < 18446744073709551616) (hs' : 24 + p'.size ≤ 128) :
    imgT 128 ⟨k, X, g⟩ p (sumT 128 ⟨k, X, g⟩ p) = imgT 128 ⟨k', X', g'⟩ p' (sumT 128 ⟨k', X', g'⟩ p') ↔ ((k = k' ∧ X = X' ∧ g = g') ∧ p = p') := by
  constructor
  · intro h
    have h1 := parts_img (c := sumT 128 ⟨k, X, g⟩ p) hok hg (Crc.sum_lt _) hs (by decide) (by decide)
    have h2 := parts_img (c := sumT 128 ⟨k', X', g'⟩ p') hok' hg' (Crc.sum_lt _) hs' (by decide) (by decide)
    rw [h, h2] at h1
    simp only [Option.some.injEq, Prod.mk.injEq, Env.Hd.mk.injEq] at h1
    obtain ⟨⟨a, b, c⟩, d, _⟩ := h1
    exact ⟨⟨a.symm, by omega, c.symm⟩, d.symm⟩
  · rintro ⟨⟨rfl, rfl, rfl⟩, rfl⟩; rfl
end Go.Proofs.Ytbnpldilkkhgmaa
