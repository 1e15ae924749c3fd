/- plain arithmetic of the check -/
import Derived.Below
namespace Go.Proofs.Ytbnpldilkkhgmaa.Crc
def bit (r : Nat) : Nat := r / 2 ^^^ (2197175160 * (r % 2))
def tab (b : Nat) : Nat := Nat.repeat bit 8 b
def byte (r c : Nat) : Nat := r / 256 ^^^ tab ((r % 256) ^^^ c)
def run (r : Nat) (l : List UInt8) : Nat := l.foldl (fun r c => byte r c.toNat) r
theorem bit_lt (r : Nat) (h : r < 4294967296) : bit r < 4294967296 := by
  unfold bit
  have : r / 2 < 2 ^ 32 := by omega
  have h2 : 2197175160 * (r % 2) < 2 ^ 32 := by have := Nat.mod_lt r (show 2 > 0 by decide); omega
  exact Nat.xor_lt_two_pow this h2
theorem rep_lt (n r : Nat) (h : r < 4294967296) : Nat.repeat bit n r < 4294967296 := by
  induction n with
  | zero => exact h
  | succ n ih => exact bit_lt _ ih
theorem tab_lt (b : Nat) (h : b < 4294967296) : tab b < 4294967296 := rep_lt 8 b h
theorem idx_lt (r c : Nat) (hc : c < 256) : (r % 256) ^^^ c < 256 := by
  have : r % 256 < 2 ^ 8 := by omega
  exact Nat.xor_lt_two_pow this (by omega)
theorem byte_lt (r c : Nat) (h : r < 4294967296) (hc : c < 256) : byte r c < 4294967296 := by
  unfold byte
  have h1 : r / 256 < 2 ^ 32 := by omega
  have h2 := tab_lt ((r % 256) ^^^ c) (by have := idx_lt r c hc; omega)
  exact Nat.xor_lt_two_pow h1 h2
theorem run_lt (l : List UInt8) (r : Nat) (h : r < 4294967296) : run r l < 4294967296 := by
  induction l generalizing r with
  | nil => exact h
  | cons c l ih => exact ih _ (byte_lt r _ h (by have := c.toNat_lt; omega))
theorem run_append (r : Nat) (l m : List UInt8) : run r (l ++ m) = run (run r l) m := by
  simp [run, List.foldl_append]
theorem run_snoc (r : Nat) (l : List UInt8) (c : UInt8) : run r (l ++ [c]) = byte (run r l) c.toNat := by
  simp [run, List.foldl_append]
def on (check : Nat) (l : List UInt8) : Nat := 4294967295 - run (4294967295 - check) l
theorem on_lt (c : Nat) (l : List UInt8) : on c l < 4294967296 := by unfold on; omega
def ofs (ss : List ByteArray) : Nat := ss.foldl (fun c s => on c s.data.toList) 0
theorem ofs_lt (ss : List ByteArray) : ofs ss < 4294967296 := by
  unfold ofs
  suffices h : ∀ (l : List ByteArray) (c : Nat), c < 4294967296 → l.foldl (fun c s => on c s.data.toList) c < 4294967296 from h ss 0 (by omega)
  intro l
  induction l with
  | nil => intro c h; exact h
  | cons s l ih => intro c _; exact ih _ (on_lt _ _)
theorem ofs_snoc (ss : List ByteArray) (s : ByteArray) : ofs (ss ++ [s]) = on (ofs ss) s.data.toList := by simp [ofs, List.foldl_append]
def sum (l : List UInt8) : Nat := on 0 l
theorem on_on (c : Nat) (hc : c < 4294967296) (l m : List UInt8) : on (on c l) m = on c (l ++ m) := by
  unfold on
  have h := run_lt l (4294967295 - c) (by omega)
  rw [run_append, show 4294967295 - (4294967295 - run (4294967295 - c) l) = run (4294967295 - c) l from by omega]
theorem ofs_one (a : ByteArray) : ofs [a] = sum a.data.toList := rfl
theorem ofs_two (a b : ByteArray) : ofs [a, b] = sum (a.data.toList ++ b.data.toList) := on_on 0 (by omega) _ _
theorem ofs_eq (ss : List ByteArray) : ofs ss = sum (ss.flatMap (·.data.toList)) := by
  unfold ofs sum
  suffices h : ∀ (l : List ByteArray) (c : Nat), c < 4294967296 → l.foldl (fun c s => on c s.data.toList) c = on c (l.flatMap (·.data.toList)) from h ss 0 (by omega)
  intro l
  induction l with
  | nil => intro c h; simp [on, run]; omega
  | cons s l ih => intro c hc; rw [List.foldl_cons, ih _ (on_lt _ _), on_on _ hc, List.flatMap_cons]
theorem sum_lt (l : List UInt8) : sum l < 4294967296 := on_lt _ _
/-! The register's step is linear. -/
theorem xor_mod_two (x y : Nat) : (x ^^^ y) % 2 = (x % 2) ^^^ (y % 2) := by
  have := Nat.xor_mod_two_pow (a := x) (b := y) (n := 1)
  simpa using this
theorem bit_xor (x y : Nat) : bit (x ^^^ y) = bit x ^^^ bit y := by
  unfold bit
  have e : (x ^^^ y) / 2 = x / 2 ^^^ y / 2 := by
    have := Nat.xor_div_two_pow (a := x) (b := y) (n := 1)
    simpa using this
  rw [e, xor_mod_two]
  have m : ∀ a b : Nat, a < 2 → b < 2 → 2197175160 * (a ^^^ b) = 2197175160 * a ^^^ 2197175160 * b := by
    intro a b ha hb
    rcases (by omega : a = 0 ∨ a = 1) with rfl | rfl <;> rcases (by omega : b = 0 ∨ b = 1) with rfl | rfl <;> decide
  rw [m _ _ (Nat.mod_lt _ (by decide)) (Nat.mod_lt _ (by decide))]
  ac_rfl
theorem rep_xor (n x y : Nat) : Nat.repeat bit n (x ^^^ y) = Nat.repeat bit n x ^^^ Nat.repeat bit n y := by
  induction n with
  | zero => rfl
  | succ n ih => show bit _ = bit _ ^^^ bit _; rw [ih, bit_xor]
theorem rep_high (n q : Nat) : Nat.repeat bit n (2 ^ n * q) = q := by
  induction n generalizing q with
  | zero => simp [Nat.repeat]
  | succ n ih =>
    show bit (Nat.repeat bit n _) = q
    rw [Nat.pow_succ, Nat.mul_assoc, ih]
    unfold bit
    rw [Nat.mul_mod_right, Nat.mul_div_cancel_left _ (by decide)]; simp
theorem split_byte (r c : Nat) : r ^^^ c = (2 ^ 8 * (r / 256)) ^^^ ((r % 256) ^^^ c) := by
  have h : r = (2 ^ 8 * (r / 256)) ^^^ (r % 256) := by
    apply Nat.eq_of_testBit_eq
    intro i
    rw [Nat.testBit_xor, Nat.testBit_two_pow_mul, show r / 256 = r / 2 ^ 8 from rfl, Nat.testBit_div_two_pow, show r % 256 = r % 2 ^ 8 from rfl, Nat.testBit_mod_two_pow]
    by_cases h8 : 8 ≤ i
    · have : ¬ i < 8 := by omega
      simp [h8, this]
    · have : i < 8 := by omega
      simp [h8, this]
  conv => lhs; rw [h]
  rw [Nat.xor_assoc]
theorem take_eq (r c : Nat) : Nat.repeat bit 8 (r ^^^ c) = byte r c := by
  rw [split_byte r c, rep_xor, rep_high]; rfl
/-! The register's step loses nothing. -/
theorem bit_top (x : Nat) (h : x < 4294967296) : (bit x).testBit 31 = decide (x % 2 = 1) := by
  unfold bit
  rw [Nat.testBit_xor]
  have h1 : (x / 2).testBit 31 = false := Nat.testBit_lt_two_pow (by omega)
  rw [h1, Bool.false_xor]
  rcases (by omega : x % 2 = 0 ∨ x % 2 = 1) with e | e <;> rw [e] <;> decide
theorem xor_cancel {a b c : Nat} (h : a ^^^ c = b ^^^ c) : a = b := by
  have : (a ^^^ c) ^^^ c = (b ^^^ c) ^^^ c := by rw [h]
  rwa [Nat.xor_assoc, Nat.xor_assoc, Nat.xor_self, Nat.xor_zero, Nat.xor_zero] at this
theorem bit_inj {x y : Nat} (hx : x < 4294967296) (hy : y < 4294967296) (h : bit x = bit y) : x = y := by
  have h1 := bit_top x hx
  have h2 := bit_top y hy
  rw [h, h2] at h1
  have hp : x % 2 = y % 2 := by
    have : (y % 2 = 1) ↔ (x % 2 = 1) := by simpa using h1
    omega
  unfold bit at h
  rw [hp] at h
  have := xor_cancel h
  omega
theorem rep_inj {n x y : Nat} (hx : x < 4294967296) (hy : y < 4294967296) (h : Nat.repeat bit n x = Nat.repeat bit n y) : x = y := by
  induction n with
  | zero => exact h
  | succ n ih => exact ih (bit_inj (rep_lt _ _ hx) (rep_lt _ _ hy) h)
theorem byte_inj {r s c : Nat} (hr : r < 4294967296) (hs : s < 4294967296) (hc : c < 256) (h : byte r c = byte s c) : r = s := by
  rw [← take_eq r c, ← take_eq s c] at h
  have := rep_inj (Nat.xor_lt_two_pow (n := 32) (by omega) (by omega)) (Nat.xor_lt_two_pow (n := 32) (by omega) (by omega)) h
  exact xor_cancel this
theorem run_inj {l : List UInt8} {r s : Nat} (hr : r < 4294967296) (hs : s < 4294967296) (h : run r l = run s l) : r = s := by
  induction l generalizing r s with
  | nil => exact h
  | cons c l ih => exact byte_inj hr hs c.toNat_lt (ih (byte_lt _ _ hr c.toNat_lt) (byte_lt _ _ hs c.toNat_lt) h)
theorem on_inj {l : List UInt8} {c d : Nat} (hc : c < 4294967296) (hd : d < 4294967296) (h : on c l = on d l) : c = d := by
  unfold on at h
  have h1 := run_lt l (4294967295 - c) (by omega)
  have h2 := run_lt l (4294967295 - d) (by omega)
  have := run_inj (l := l) (r := 4294967295 - c) (s := 4294967295 - d) (by omega) (by omega) (by omega)
  omega
/-! A text as one number, the first byte lowest: the check of it is the register's steps upon it. -/
theorem split_pow (r k : Nat) : r = (2 ^ k * (r / 2 ^ k)) ^^^ (r % 2 ^ k) := by
  apply Nat.eq_of_testBit_eq
  intro i
  rw [Nat.testBit_xor, Nat.testBit_two_pow_mul, Nat.testBit_div_two_pow, Nat.testBit_mod_two_pow]
  by_cases h8 : k ≤ i
  · have : ¬ i < k := by omega
    simp [h8, this]
  · have : i < k := by omega
    simp [h8, this]
theorem add_xor {x m k : Nat} (h : x < 2 ^ k) : x + 2 ^ k * m = x ^^^ 2 ^ k * m := by
  have e := split_pow (x + 2 ^ k * m) k
  rw [Nat.add_mul_mod_self_left, Nat.mod_eq_of_lt h, Nat.add_mul_div_left _ _ (Nat.two_pow_pos k), Nat.div_eq_of_lt h, Nat.zero_add] at e
  rw [Nat.xor_comm]; exact e
def le : List UInt8 → Nat
  | [] => 0
  | c :: l => c.toNat + 256 * le l
theorem rep_add (m n x : Nat) : Nat.repeat bit (m + n) x = Nat.repeat bit m (Nat.repeat bit n x) := by
  induction m with
  | zero => simp [Nat.repeat]
  | succ m ih => rw [Nat.succ_add]; show bit _ = bit _; rw [ih]
theorem le_cons (c : UInt8) (l : List UInt8) : le (c :: l) = c.toNat ^^^ 2 ^ 8 * le l := by
  show c.toNat + 256 * le l = _
  exact add_xor (k := 8) c.toNat_lt
theorem run_le (l : List UInt8) (r : Nat) : run r l = Nat.repeat bit (8 * l.length) (r ^^^ le l) := by
  induction l generalizing r with
  | nil => simp [run, le, Nat.repeat]
  | cons c l ih =>
    show run (byte r c.toNat) l = _
    rw [ih, List.length_cons, show 8 * (l.length + 1) = 8 * l.length + 8 from by omega, rep_add, le_cons, ← Nat.xor_assoc, rep_xor 8, rep_high, take_eq]
theorem rep_zero (n : Nat) : Nat.repeat bit n 0 = 0 := by
  induction n with
  | zero => rfl
  | succ n ih => show bit _ = 0; rw [ih]; decide
theorem le_set (l : List UInt8) (q : Nat) (j : Nat) (u : UInt8) (hq : q < l.length) (hu : u.toNat = l[q].toNat ^^^ 2 ^ j) : le (l.set q u) = le l ^^^ 2 ^ (8 * q + j) := by
  induction l generalizing q with
  | nil => simp at hq
  | cons c l ih =>
    cases q with
    | zero =>
      rw [List.set_cons_zero, le_cons, le_cons, hu]
      simp only [List.getElem_cons_zero, Nat.mul_zero, Nat.zero_add]
      ac_rfl
    | succ q =>
      rw [List.set_cons_succ, le_cons, le_cons, ih q (by simpa using hq) (by simpa using hu), show 8 * (q + 1) + j = 8 + (8 * q + j) from by omega, Nat.pow_add 2 8]
      have : ∀ a b : Nat, 2 ^ 8 * (a ^^^ b) = (2 ^ 8 * a) ^^^ (2 ^ 8 * b) := fun a b => by
        rw [Nat.mul_comm, ← Nat.shiftLeft_eq, Nat.shiftLeft_xor_distrib, Nat.shiftLeft_eq, Nat.shiftLeft_eq, Nat.mul_comm a, Nat.mul_comm b]
      rw [this]
      ac_rfl
theorem burst_next (bits k f : Nat) (h : bits / 2 ^ k % 2 = 1) : (bits % 2 ^ (k + 1)) <<< f = (bits % 2 ^ k) <<< f ^^^ 2 ^ (f + k) := by
  rw [Nat.mod_pow_succ, h, add_xor (Nat.mod_lt _ (Nat.two_pow_pos k)), Nat.shiftLeft_xor_distrib, Nat.mul_one, Nat.shiftLeft_eq (2 ^ k), Nat.pow_add, Nat.mul_comm (2 ^ k)]
theorem burst_same (bits k f : Nat) (h : ¬ bits / 2 ^ k % 2 = 1) : (bits % 2 ^ (k + 1)) <<< f = (bits % 2 ^ k) <<< f := by
  rw [Nat.mod_pow_succ, show bits / 2 ^ k % 2 = 0 from by omega, Nat.mul_zero, Nat.add_zero]
theorem burst_ne {l m : List UInt8} {bits f : Nat} (hl : l.length = m.length) (hb : bits < 4294967296) (h0 : bits ≠ 0) (hf : f ≤ 8 * m.length) (h : le l = le m ^^^ bits <<< f) : sum l ≠ sum m := by
  intro e
  unfold sum on at e
  have h1 := run_lt l (4294967295 - 0) (by omega)
  have h2 := run_lt m (4294967295 - 0) (by omega)
  have e2 : run (4294967295 - 0) l = run (4294967295 - 0) m := by omega
  rw [run_le, run_le, h, hl, ← Nat.xor_assoc, rep_xor] at e2
  generalize Nat.repeat bit (8 * m.length) (4294967295 - 0 ^^^ le m) = x at e2
  have e3 : Nat.repeat bit (8 * m.length) (bits <<< f) = 0 := by
    have : (x ^^^ Nat.repeat bit (8 * m.length) (bits <<< f)) ^^^ x = x ^^^ x := by rw [e2]
    rwa [Nat.xor_comm x, Nat.xor_assoc, Nat.xor_self, Nat.xor_zero] at this
  rw [show 8 * m.length = (8 * m.length - f) + f from by omega, rep_add, Nat.shiftLeft_eq, Nat.mul_comm bits, rep_high] at e3
  exact h0 (rep_inj (n := 8 * m.length - f) hb (by omega) (by rw [e3, rep_zero]))
/-! The check of three texts added byte by byte. -/
theorem byte_xor (r s c d : Nat) : byte (r ^^^ s) (c ^^^ d) = byte r c ^^^ byte s d := by
  rw [← take_eq, ← take_eq, ← take_eq, ← rep_xor]
  congr 1
  ac_rfl
theorem run_xor3 : ∀ (l a b c : List UInt8) (r s t : Nat), a.length = l.length → b.length = l.length → c.length = l.length →
    (∀ j (h : j < l.length) (ha : j < a.length) (hb : j < b.length) (hc : j < c.length), l[j].toNat = a[j].toNat ^^^ b[j].toNat ^^^ c[j].toNat) →
    run (r ^^^ s ^^^ t) l = run r a ^^^ run s b ^^^ run t c
  | [], [], [], [], _, _, _, _, _, _, _ => rfl
  | x :: l, y :: a, z :: b, u :: c, r, s, t, ha, hb, hc, h => by
    have h0 := h 0 (by simp) (by simp) (by simp) (by simp)
    simp only [List.getElem_cons_zero] at h0
    show run (byte (r ^^^ s ^^^ t) x.toNat) l = run (byte r y.toNat) a ^^^ run (byte s z.toNat) b ^^^ run (byte t u.toNat) c
    rw [h0, byte_xor, byte_xor]
    refine run_xor3 l a b c _ _ _ (by simpa using ha) (by simpa using hb) (by simpa using hc) fun j h1 h2 h3 h4 => ?_
    have := h (j + 1) (by simpa using h1) (by simpa using h2) (by simpa using h3) (by simpa using h4)
    simpa using this
  | [], _ :: _, _, _, _, _, _, ha, _, _, _ => by simp at ha
  | [], [], _ :: _, _, _, _, _, _, hb, _, _ => by simp at hb
  | [], [], [], _ :: _, _, _, _, _, _, hc, _ => by simp at hc
  | _ :: _, [], _, _, _, _, _, ha, _, _, _ => by simp at ha
  | _ :: _, _ :: _, [], _, _, _, _, _, hb, _, _ => by simp at hb
  | _ :: _, _ :: _, _ :: _, [], _, _, _, _, _, hc, _ => by simp at hc
theorem neg_xor (x : Nat) (h : x < 4294967296) : 4294967295 - x = 4294967295 ^^^ x := by
  have h1 := BitVec.toNat_not (x := BitVec.ofNat 32 x)
  have h2 := BitVec.toNat_xor (BitVec.allOnes 32) (BitVec.ofNat 32 x)
  rw [BitVec.allOnes_xor, h1] at h2
  simp [BitVec.toNat_ofNat] at h2
  rw [Nat.mod_eq_of_lt (by omega)] at h2
  omega
theorem sum_xor3 (l a b c : List UInt8) (ha : a.length = l.length) (hb : b.length = l.length) (hc : c.length = l.length)
    (h : ∀ j (h : j < l.length) (ha : j < a.length) (hb : j < b.length) (hc : j < c.length), l[j].toNat = a[j].toNat ^^^ b[j].toNat ^^^ c[j].toNat) : sum l = sum a ^^^ sum b ^^^ sum c := by
  have e := run_xor3 l a b c 4294967295 4294967295 4294967295 ha hb hc h
  rw [Nat.xor_self, Nat.zero_xor] at e
  have h1 := run_lt a 4294967295 (by omega)
  have h2 := run_lt b 4294967295 (by omega)
  have h3 := run_lt c 4294967295 (by omega)
  have h4 := run_lt l 4294967295 (by omega)
  show 4294967295 - run (4294967295 - 0) l = (4294967295 - run (4294967295 - 0) a) ^^^ (4294967295 - run (4294967295 - 0) b) ^^^ (4294967295 - run (4294967295 - 0) c)
  rw [Nat.sub_zero, neg_xor _ h1, neg_xor _ h2, neg_xor _ h3, neg_xor _ h4, e]
  generalize run 4294967295 a = x
  generalize run 4294967295 b = y
  generalize run 4294967295 c = z
  have : (4294967295 ^^^ x) ^^^ (4294967295 ^^^ y) ^^^ (4294967295 ^^^ z) = (4294967295 ^^^ 4294967295) ^^^ (4294967295 ^^^ (x ^^^ y ^^^ z)) := by ac_rfl
  rw [this, Nat.xor_self, Nat.zero_xor]
end Go.Proofs.Ytbnpldilkkhgmaa.Crc
