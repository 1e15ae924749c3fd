/- DevFaults, in plain Lean: what its device is, step by step. -/
import Derived.Test.YtcpbpfngiimcnaaDevC
namespace Go.Proofs.Ytcpbpfngiimcnaa
namespace Dev
variable {b l t : Nat} {fo fl fs : ByteArray}
/-- after the first write, and its flush -/
def f1 (l : Nat) (fo : ByteArray) : St := { new with writes := 1, cache := [(l, fo)] }
def f2 (l : Nat) (fo : ByteArray) : St := { new with writes := 1, fls := 1, media := new.media.set l fo }
def f3 (b l : Nat) (fo : ByteArray) : St := { f2 l fo with bad := new.bad.set b true }
def f4 (b l : Nat) (fo : ByteArray) : St := { f3 b l fo with lose := 1 }
def f5 (b l : Nat) (fo : ByteArray) : St := { f3 b l fo with writes := 2 }
def f6 (b l : Nat) (fo : ByteArray) : St := { f3 b l fo with writes := 2, reads := 1 }
def f7 (b l : Nat) (fo : ByteArray) (t : Nat) : St := { f6 b l fo with stray := 1, «to» := (t : Int) }
def f8 (b l : Nat) (fo : ByteArray) (t : Nat) (fs : ByteArray) : St := { f6 b l fo with «to» := (t : Int), writes := 3, cache := [(t, fs)] }
def f9 (b l : Nat) (fo : ByteArray) (t : Nat) (fs : ByteArray) : St := { f8 b l fo t fs with reads := 2 }
def f10 (b l : Nat) (fo : ByteArray) (t : Nat) (fs : ByteArray) : St := { f8 b l fo t fs with reads := 3 }
theorem isSec_nat {n : Nat} (h : n < 9) : isSec (n : Int) = true := isSec_iff.2 (by omega)
theorem bad_new (n : Nat) : new.bad.getD n false = false := by
  unfold new
  rw [List.getD_eq_getElem?_getD, List.getElem?_replicate]
  split <;> rfl
theorem bad_set {n b : Nat} (h : n ≠ b) : (new.bad.set b true).getD n false = false := by
  rw [List.getD_eq_getElem?_getD, List.getElem?_set_ne (by omega), ← List.getD_eq_getElem?_getD]
  exact bad_new n
theorem bad_self {b : Nat} (h : b < 9) : (new.bad.set b true).getD b false = true := by
  rw [List.getD_eq_getElem?_getD, List.getElem?_set_self (by simpa [new] using h)]
  rfl
theorem media_self {l : Nat} (h : l < 9) (x : ByteArray) : (new.media.set l x).getD l .empty = x := by
  rw [List.getD_eq_getElem?_getD, List.getElem?_set_self (by simpa [new] using h)]
  rfl
theorem w1 (hl : l < 9) (ho : fo.size = 128) : write new (l : Int) fo = (f1 l fo, 0) := by
  have h1 := bad_new l
  have h2 := isSec_nat hl
  unfold write
  rw [if_neg (by decide), if_neg (by rw [h2]; decide), if_neg (by omega), if_neg (by decide), Int.toNat_natCast, h1, if_neg (by decide)]
  rfl
theorem fl1 : flush (f1 l fo) = (f2 l fo, 0) := rfl
theorem w5 (hl : l < 9) (hbl : b ≠ l) (hs : fl.size = 128) : write (f4 b l fo) (l : Int) fl = (f5 b l fo, 0) := by
  have h1 : (f4 b l fo).bad.getD l false = false := bad_set (by omega)
  have h2 := isSec_nat hl
  unfold write
  rw [if_neg (show ¬ ready (f4 b l fo) ≠ 0 from fun h => h rfl), if_neg (by rw [h2]; decide), if_neg (by omega), if_neg (show ¬ (burn (f4 b l fo)).2 = true from fun h => by cases h), Int.toNat_natCast, h1, if_neg (by decide)]
  rfl
theorem r6 (hl : l < 9) (hbl : b ≠ l) : read (f5 b l fo) (l : Int) = (f6 b l fo, fo, 0) := by
  have h1 : (f5 b l fo).bad.getD l false = false := bad_set (by omega)
  have h2 := isSec_nat hl
  have h3 : (f5 b l fo).media.getD l .empty = fo := media_self hl fo
  unfold read
  rw [if_neg (show ¬ ready (f5 b l fo) ≠ 0 from fun h => h rfl), if_neg (by rw [h2]; decide), Int.toNat_natCast, h1, if_neg (by decide), h3]
  rfl
theorem w8 (hl : l < 9) (ht : t < 9) (hbl : b ≠ l) (hbt : b ≠ t) (hs : fs.size = 128) : write (f7 b l fo t) (l : Int) fs = (f8 b l fo t fs, 0) := by
  have h1 : (f7 b l fo t).bad.getD l false = false := bad_set (by omega)
  have h4 : (f7 b l fo t).bad.getD t false = false := bad_set (by omega)
  have h2 := isSec_nat hl
  have h3 := isSec_nat ht
  have ha : aim (f7 b l fo t) (l : Int) = some t := by
    unfold aim
    rw [if_pos (show (f7 b l fo t).stray = 1 from rfl), if_neg (by
      rintro (h | h | h)
      · cases h
      · have : isSec (t : Int) = false := h
        rw [h3] at this; cases this
      · have : (f7 b l fo t).bad.getD ((t : Int)).toNat false = true := h
        rw [Int.toNat_natCast, h4] at this; cases this)]
    rfl
  unfold write
  rw [if_neg (show ¬ ready (f7 b l fo t) ≠ 0 from fun h => h rfl), if_neg (by rw [h2]; decide), if_neg (by omega), if_neg (show ¬ (burn (f7 b l fo t)).2 = true from fun h => by cases h), Int.toNat_natCast, h1, if_neg (by decide), ha]
  rfl
theorem r9 (hl : l < 9) (hbl : b ≠ l) (hlt : l ≠ t) : read (f8 b l fo t fs) (l : Int) = (f9 b l fo t fs, fo, 0) := by
  have h1 : (f8 b l fo t fs).bad.getD l false = false := bad_set (by omega)
  have h2 := isSec_nat hl
  have h3 : (f8 b l fo t fs).media.getD l .empty = fo := media_self hl fo
  have h4 : look (f8 b l fo t fs).cache l fo = fo := by
    show (if t = l then fs else fo) = fo
    rw [if_neg (by omega)]
  unfold read
  rw [if_neg (show ¬ ready (f8 b l fo t fs) ≠ 0 from fun h => h rfl), if_neg (by rw [h2]; decide), Int.toNat_natCast, h1, if_neg (by decide), h3, h4]
  rfl
theorem r10 (ht : t < 9) (hbt : b ≠ t) : read (f9 b l fo t fs) (t : Int) = (f10 b l fo t fs, fs, 0) := by
  have h1 : (f9 b l fo t fs).bad.getD t false = false := bad_set (by omega)
  have h2 := isSec_nat ht
  have h4 : ∀ z, look (f9 b l fo t fs).cache t z = fs := fun z => by
    show (if t = t then fs else z) = fs
    rw [if_pos rfl]
  unfold read
  rw [if_neg (show ¬ ready (f9 b l fo t fs) ≠ 0 from fun h => h rfl), if_neg (by rw [h2]; decide), Int.toNat_natCast, h1, if_neg (by decide), h4]
  rfl
/-- what holds of the device while acts are done -/
structure Stuck (b k : Nat) (d : St) : Prop where
  off : d.off = false
  gone : d.gone = false
  fuse : d.fuse = 0
  lose : d.lose = 0
  stray : d.stray = 0
  bad : d.bad.getD b false = true
  reads : d.reads ≤ 3
  writes : d.writes ≤ 3
  fls : d.fls ≤ 1 + k
  cache : d.cache.length ≤ 1
theorem Stuck.fit {k : Nat} {d : St} (h : Stuck b k d) (hk : k ≤ 100) : Fit d := by
  obtain ⟨h1, h2, h3, h4, h5, h6, h7, h8, h9, h10⟩ := h
  exact ⟨by omega, by omega, by omega, by omega, by omega, by omega, by omega⟩
theorem Stuck.ready {k : Nat} {d : St} (h : Stuck b k d) : ready d = 0 := by
  unfold Dev.ready
  rw [h.off, h.gone]
  rfl
theorem Stuck.burn {k : Nat} {d : St} (h : Stuck b k d) : burn d = (d, false) := by
  unfold Dev.burn
  rw [if_pos h.fuse]
theorem Stuck.flush {k : Nat} {d : St} (h : Stuck b k d) : ∃ d', Dev.flush d = (d', 0) ∧ Stuck b (k + 1) d' := by
  refine ⟨{ d with media := settled d.media d.cache, cache := [], fls := d.fls + 1 }, ?_, ?_⟩
  · unfold Dev.flush
    rw [h.ready, h.burn]
    rfl
  · obtain ⟨h1, h2, h3, h4, h5, h6, h7, h8, h9, h10⟩ := h
    exact ⟨h1, h2, h3, h4, h5, h6, h7, h8, by show d.fls + 1 ≤ _; omega, Nat.zero_le _⟩
theorem Stuck.crash {k : Nat} {d : St} (h : Stuck b k d) (f : List Int) : Stuck b (k + 1) (Dev.crash d f) := by
  obtain ⟨h1, h2, h3, h4, h5, h6, h7, h8, h9, h10⟩ := h
  exact ⟨rfl, h2, rfl, h4, h5, h6, h7, h8, by show d.fls ≤ _; omega, Nat.zero_le _⟩
theorem Stuck.write {k : Nat} {d : St} (h : Stuck b k d) (hb : b < 9) (hs : fs.size = 128) : Dev.write d (b : Int) fs = (d, 7) := by
  have h2 := isSec_nat hb
  unfold Dev.write
  rw [h.ready, h.burn, if_neg (by decide), if_neg (by rw [h2]; decide), if_neg (by omega), if_neg (fun h => by cases h), Int.toNat_natCast, h.bad]
  rfl
theorem Stuck.read {k : Nat} {d : St} (h : Stuck b k d) (hb : b < 9) : Dev.read d (b : Int) = (d, .empty, 7) := by
  have h2 := isSec_nat hb
  unfold Dev.read
  rw [h.ready, if_neg (by decide), if_neg (by rw [h2]; decide), Int.toNat_natCast, h.bad]
  rfl
theorem Stuck.next {k : Nat} {d : St} (h : Stuck b k d) : Stuck b (k + 1) d := by
  obtain ⟨h1, h2, h3, h4, h5, h6, h7, h8, h9, h10⟩ := h
  exact ⟨h1, h2, h3, h4, h5, h6, h7, h8, by omega, h10⟩
theorem stuck10 (hb : b < 9) : Stuck b 0 (f10 b l fo t fs) := ⟨rfl, rfl, rfl, rfl, rfl, bad_self hb, Nat.le_refl 3, Nat.le_refl 3, Nat.le_refl 1, Nat.le_refl 1⟩
/-- a device that is gone -/
theorem gone_read {d : St} (h : d.off = false) (hg : d.gone = true) (i : Int) : Dev.read d i = (d, .empty, 8) := by
  unfold Dev.read Dev.ready
  rw [h, hg]
  rfl
theorem gone_write {d : St} (h : d.off = false) (hg : d.gone = true) (i : Int) (s : ByteArray) : Dev.write d i s = (d, 8) := by
  unfold Dev.write Dev.ready
  rw [h, hg]
  rfl
theorem fit_gone {d : St} (h : Fit d) : Fit { d with gone := true } := ⟨h.fuse, h.lose, h.stray, h.reads, h.writes, h.fls, h.cache⟩
theorem fit_crash {d : St} (h : Fit d) (f : List Int) : Fit (crash d f) := ⟨by show 0 < _; omega, h.lose, h.stray, h.reads, h.writes, h.fls, Nat.zero_le _⟩
theorem fit_f (d : St) (h1 : d.fuse ≤ 1) (h2 : d.lose ≤ 1) (h3 : d.stray ≤ 1) (h4 : d.reads ≤ 3) (h5 : d.writes ≤ 3) (h6 : d.fls ≤ 3) (h7 : d.cache.length ≤ 1) : Fit d := ⟨by omega, by omega, by omega, by omega, by omega, by omega, by omega⟩
theorem fitF1 : Fit (f1 l fo) := fit_f _ (show (0 : Nat) ≤ 1 by omega) (show (0 : Nat) ≤ 1 by omega) (show (0 : Nat) ≤ 1 by omega) (show (0 : Nat) ≤ 3 by omega) (show (1 : Nat) ≤ 3 by omega) (show (0 : Nat) ≤ 3 by omega) (show (1 : Nat) ≤ 1 by omega)
theorem fitF4 : Fit (f4 b l fo) := fit_f _ (show (0 : Nat) ≤ 1 by omega) (show (1 : Nat) ≤ 1 by omega) (show (0 : Nat) ≤ 1 by omega) (show (0 : Nat) ≤ 3 by omega) (show (1 : Nat) ≤ 3 by omega) (show (1 : Nat) ≤ 3 by omega) (show (0 : Nat) ≤ 1 by omega)
theorem fitF5 : Fit (f5 b l fo) := fit_f _ (show (0 : Nat) ≤ 1 by omega) (show (0 : Nat) ≤ 1 by omega) (show (0 : Nat) ≤ 1 by omega) (show (0 : Nat) ≤ 3 by omega) (show (2 : Nat) ≤ 3 by omega) (show (1 : Nat) ≤ 3 by omega) (show (0 : Nat) ≤ 1 by omega)
theorem fitF7 : Fit (f7 b l fo t) := fit_f _ (show (0 : Nat) ≤ 1 by omega) (show (0 : Nat) ≤ 1 by omega) (show (1 : Nat) ≤ 1 by omega) (show (1 : Nat) ≤ 3 by omega) (show (2 : Nat) ≤ 3 by omega) (show (1 : Nat) ≤ 3 by omega) (show (0 : Nat) ≤ 1 by omega)
theorem fitF8 : Fit (f8 b l fo t fs) := fit_f _ (show (0 : Nat) ≤ 1 by omega) (show (0 : Nat) ≤ 1 by omega) (show (0 : Nat) ≤ 1 by omega) (show (1 : Nat) ≤ 3 by omega) (show (3 : Nat) ≤ 3 by omega) (show (1 : Nat) ≤ 3 by omega) (show (1 : Nat) ≤ 1 by omega)
theorem fitF9 : Fit (f9 b l fo t fs) := fit_f _ (show (0 : Nat) ≤ 1 by omega) (show (0 : Nat) ≤ 1 by omega) (show (0 : Nat) ≤ 1 by omega) (show (2 : Nat) ≤ 3 by omega) (show (3 : Nat) ≤ 3 by omega) (show (1 : Nat) ≤ 3 by omega) (show (1 : Nat) ≤ 1 by omega)
end Dev
end Go.Proofs.Ytcpbpfngiimcnaa
