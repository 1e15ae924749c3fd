/- Updates that may be are told again of their bytes, a record of its; of a beginning of a record's there is none: plain laws. law12.same. -/
import Derived.Test.YtemhflafiephpaaRecN
import Derived.Test.YtemhflafiephpaaLawRecTexts
namespace Go.Proofs.Ytemhflafiephpaa
open Go.RowKit
namespace Rec
open Go.Proofs.Ytemhflafiephpaa.Msg (Up)
theorem split_none {x tail : List UInt8} (hx : x.length < 256) {m : Nat} (h : m = 0 ∨ m - 1 < x.length) : Lend.split ((UInt8.ofNat x.length :: x ++ tail).take m) = none := by
  cases m with
  | zero => rfl
  | succ m =>
    simp only [List.cons_append, List.take_succ_cons]
    rw [Lend.split, if_neg]
    rw [UInt8.toNat_ofNat', List.length_take]
    omega
theorem split_some {x tail : List UInt8} (hx : x.length < 256) {m : Nat} (h : x.length + 1 ≤ m) : Lend.split ((UInt8.ofNat x.length :: x ++ tail).take m) = some (x, tail.take (m - 1 - x.length)) := by
  cases m with
  | zero => omega
  | succ m =>
    simp only [List.cons_append, List.take_succ_cons]
    have e : (UInt8.ofNat x.length).toNat = x.length := by rw [UInt8.toNat_ofNat']; omega
    have e2 : (x ++ tail).take m = x ++ tail.take (m - x.length) := by
      rw [List.take_append, List.take_of_length_le (by omega)]
    rw [Lend.split, e, e2, if_pos (by rw [List.length_append]; omega), List.take_left' rfl, List.drop_left' rfl]
    simp
theorem first_cons (k : UInt8) (t : List UInt8) : first ⟨(k :: t).toArray⟩ = match Lend.split t with
    | none => none
    | some (y, r) => if k.toNat = 1 then (match Lend.split r with
        | none => none
        | some (v, r2) => chk ⟨1, ⟨y.toArray⟩, ⟨v.toArray⟩, 0⟩ ⟨r2.toArray⟩)
      else if k.toNat = 3 then (if 8 ≤ r.length then chk ⟨3, ⟨y.toArray⟩, ByteArray.empty, Crc.le (r.take 8)⟩ ⟨(r.drop 8).toArray⟩ else none)
      else chk ⟨k.toNat, ⟨y.toArray⟩, ByteArray.empty, 0⟩ ⟨r.toArray⟩ := by
  have hs : (⟨(k :: t).toArray⟩ : ByteArray).size = t.length + 1 := List.size_toArray
  have he : (⟨(k :: t).toArray⟩ : ByteArray).extract 1 (⟨(k :: t).toArray⟩ : ByteArray).size = ⟨t.toArray⟩ := bytes_ext (by rw [ext_data, hs]; simp)
  have h0 : (⟨(k :: t).toArray⟩ : ByteArray)[0]'(by rw [hs]; omega) = k := rfl
  unfold first
  rw [dif_pos (by rw [hs]; omega), he]
  simp only [h0]
  unfold spl
  simp only
  cases Lend.split t with
  | none => rfl
  | some p =>
    obtain ⟨y, r⟩ := p
    simp only [Option.map_some]
    split
    · cases Lend.split r with
      | none => rfl
      | some p2 => rfl
    · split
      · have hr : (⟨r.toArray⟩ : ByteArray).size = r.length := List.size_toArray
        have h8 : (⟨r.toArray⟩ : ByteArray).extract 8 (⟨r.toArray⟩ : ByteArray).size = ⟨(r.drop 8).toArray⟩ := bytes_ext (by rw [ext_data, hr]; simp)
        rw [hr, ← hr, h8, hr]
      · rfl
theorem val_empty {v : ByteArray} (h : v.size = 0) : v = ByteArray.empty := ByteArray.ext (Array.size_eq_zero_iff.1 h)
theorem dsz (v : ByteArray) : v.data.toList.length = v.size := by simp
theorem dback (v : ByteArray) : (⟨v.data.toList.toArray⟩ : ByteArray) = v := bytes_ext rfl
theorem first_bytes {u : Up} (hc : check u = 0) (hd : u.delta < 18446744073709551616) (rest : List UInt8) : first ⟨(bytes u ++ rest).toArray⟩ = some (u, ⟨rest.toArray⟩) := by
  obtain ⟨k, y, v, d⟩ := u
  obtain ⟨⟨_, h2, h3⟩, h4, h5, h6⟩ := check_zero hc
  simp only at hd
  unfold bytes
  simp only [List.cons_append, List.append_assoc]
  rw [first_cons, ← dsz y]
  have hy : y.data.toList.length < 256 := by rw [dsz]; omega
  have hv : v.data.toList.length < 256 := by rw [dsz]; omega
  have sp := fun (x tail : List UInt8) (hx : x.length < 256) => split_some (tail := tail) hx (m := x.length + 1 + tail.length) (by omega)
  have sp2 : ∀ (x tail : List UInt8), x.length < 256 → Lend.split (UInt8.ofNat x.length :: (x ++ tail)) = some (x, tail) := fun x tail hx => by
    have := sp x tail hx
    rw [List.take_of_length_le (by simp; omega), List.take_of_length_le (by omega)] at this
    exact this
  rw [sp2 _ _ hy]
  have hk : (UInt8.ofNat k).toNat = k := by rw [UInt8.toNat_ofNat']; omega
  simp only [hk]
  rcases h4 with rfl | rfl | rfl
  · rw [if_pos rfl, if_pos rfl, ← dsz v, List.cons_append, sp2 _ _ hv]
    obtain rfl := h6 (by decide)
    simp only [dback]
    exact if_pos hc
  · rw [if_neg (by decide), if_neg (by decide), if_neg (by decide), if_neg (by decide)]
    obtain rfl := h6 (by decide)
    obtain rfl := val_empty (h5 (by decide))
    simp only [dback, List.nil_append]
    exact if_pos hc
  · rw [if_neg (show ¬ (3 : Nat) = 1 by decide), if_neg (show ¬ (3 : Nat) = 1 by decide), if_pos rfl, if_pos rfl]
    obtain rfl := val_empty (h5 (by decide))
    have hl := Lend.put_length 8 d
    rw [if_pos (by rw [List.length_append, hl]; omega), List.take_left' hl, List.drop_left' hl, Lend.le_put, Nat.mod_eq_of_lt (by simpa using hd)]
    simp only [dback]
    exact if_pos hc
theorem first_part {u : Up} (hc : check u = 0) {n : Nat} (h0 : n ≠ 0) (hn : n < (bytes u).length) : first ⟨((bytes u).take n).toArray⟩ = none := by
  obtain ⟨k, y, v, d⟩ := u
  obtain ⟨⟨_, h2, h3⟩, h4, h5, h6⟩ := check_zero hc
  have hy : y.data.toList.length < 256 := by rw [dsz]; omega
  have hv : v.data.toList.length < 256 := by rw [dsz]; omega
  obtain ⟨m, rfl⟩ : ∃ m, n = m + 1 := ⟨n - 1, by omega⟩
  unfold bytes at hn ⊢
  simp only [List.cons_append] at hn ⊢
  rw [List.take_succ_cons, first_cons, ← dsz y, ← List.cons_append]
  by_cases hm : m = 0 ∨ m - 1 < y.data.toList.length
  · rw [split_none hy hm]
  · rw [split_some hy (by omega)]
    have hk : (UInt8.ofNat k).toNat = k := by rw [UInt8.toNat_ofNat']; omega
    simp only [hk]
    simp only [List.length_cons, List.length_append] at hn
    rcases h4 with rfl | rfl | rfl
    · rw [if_pos rfl, if_pos rfl, ← dsz v]
      rw [if_pos rfl] at hn
      have := split_none (x := v.data.toList) (tail := []) hv (m := m - 1 - y.data.toList.length) (by simp only [List.length_cons, dsz] at hn ⊢; omega)
      rw [List.append_nil] at this
      rw [this]
    · rw [if_neg (by decide), if_neg (by decide)] at hn
      simp only [List.length_nil, dsz] at hn hm
      omega
    · rw [if_neg (show ¬ (3 : Nat) = 1 by decide), if_neg (show ¬ (3 : Nat) = 1 by decide), if_pos rfl, if_pos rfl]
      rw [if_neg (show ¬ (3 : Nat) = 1 by decide), if_pos rfl, Lend.put_length] at hn
      rw [if_neg (by rw [List.length_take, Lend.put_length]; omega)]
theorem bytes_pos (u : Up) : 2 ≤ (bytes u).length := by unfold bytes; simp
/-- told again -/
theorem parse_text : ∀ {l : List Up}, (∀ u ∈ l, check u = 0 ∧ FitU u) → parseAll ⟨(l.flatMap bytes).toArray⟩ = some l
  | [], _ => parse_empty rfl
  | u :: l, h => by
    obtain ⟨hc, hf⟩ := h u List.mem_cons_self
    have ih := parse_text (l := l) fun v hv => h v (List.mem_cons_of_mem _ hv)
    rw [List.flatMap_cons]
    have hb := bytes_pos u
    rw [parse_some (by rw [show (⟨(bytes u ++ l.flatMap bytes).toArray⟩ : ByteArray).size = (bytes u ++ l.flatMap bytes).length from List.size_toArray, List.length_append]; omega) (first_bytes hc hf.2.2.2 _), ih]
    rfl
/-- a beginning bears fewer -/
theorem parse_part : ∀ {l : List Up}, (∀ u ∈ l, check u = 0 ∧ FitU u) → ∀ {n : Nat}, n < (l.flatMap bytes).length → ∀ {m : List Up}, parseAll ⟨((l.flatMap bytes).take n).toArray⟩ = some m → m.length < l.length
  | [], _, n, hn, _, _ => by simp at hn
  | u :: l, h, n, hn, m, hp => by
    obtain ⟨hc, hf⟩ := h u List.mem_cons_self
    have ih := @parse_part l fun v hv => h v (List.mem_cons_of_mem _ hv)
    rw [List.flatMap_cons] at hn hp
    by_cases h0 : n = 0
    · subst h0
      rw [parse_empty rfl] at hp
      cases hp
      simp
    · by_cases hb : n < (bytes u).length
      · rw [List.take_append_of_le_length (by omega)] at hp
        rw [parse_none (by rw [show (⟨((bytes u).take n).toArray⟩ : ByteArray).size = ((bytes u).take n).length from List.size_toArray, List.length_take]; omega) (first_part hc h0 hb)] at hp
        cases hp
      · have hb2 := bytes_pos u
        rw [List.take_append, List.take_of_length_le (by omega)] at hp
        rw [parse_some (by rw [show (⟨(bytes u ++ (l.flatMap bytes).take (n - (bytes u).length)).toArray⟩ : ByteArray).size = (bytes u ++ (l.flatMap bytes).take (n - (bytes u).length)).length from List.size_toArray, List.length_append]; omega) (first_bytes hc hf.2.2.2 _)] at hp
        obtain ⟨m', hm', rfl⟩ := Option.map_eq_some_iff.1 hp
        rw [List.length_append] at hn
        have := ih (n := n - (bytes u).length) (by omega) hm'
        simp only [List.length_cons]
        omega
end Rec
theorem cat_R (q c n : Nat) : Lend.cat wsR [q, c, n] = Lend.put 8 q ++ (Lend.put 4 c ++ (Lend.put 2 n ++ [])) := by simp [Lend.cat, wsR]
theorem rd_head (q c n : Nat) (r : List UInt8) (hq : q < 18446744073709551616) (hc : c < 4294967296) (hn : n < 65536) : Rec.rd (Lend.cat wsR [q, c, n] ++ r) = ⟨q, c, n⟩ := by
  have L := fun w n => Lend.put_length w n
  rw [cat_R]
  simp only [List.append_assoc, List.append_nil]
  have d8 : (Lend.put 8 q ++ (Lend.put 4 c ++ (Lend.put 2 n ++ r))).drop 8 = Lend.put 4 c ++ (Lend.put 2 n ++ r) := List.drop_left' (L 8 q)
  have d12 : (Lend.put 8 q ++ (Lend.put 4 c ++ (Lend.put 2 n ++ r))).drop 12 = Lend.put 2 n ++ r := by
    rw [show 12 = 8 + 4 from rfl, ← List.drop_drop, d8]; exact List.drop_left' (L 4 c)
  unfold Rec.rd
  rw [d8, d12, List.take_left' (L 8 q), List.take_left' (L 4 c), List.take_left' (L 2 n)]
  simp only [Lend.le_put]
  congr 1
  · exact Nat.mod_eq_of_lt hq
  · exact Nat.mod_eq_of_lt hc
  · exact Nat.mod_eq_of_lt hn
theorem cat_len (q c n : Nat) : (Lend.cat wsR [q, c, n]).length = 14 := by simp [wsR, Lend.cat, Lend.put_length]
theorem payR_ok {q c : Nat} {l : List Msg.Up} (h : ∀ u ∈ l, Rec.check u = 0 ∧ FitU u) : payR q c l = ⟨(Lend.cat wsR [q, c, l.length] ++ l.flatMap Rec.bytes).toArray⟩ := by
  unfold payR
  rw [Rec.text_ok fun u hu => (h u hu).1, if_pos rfl]
  exact append_list _ _
/-- a record is told again -/
theorem opens_ok {q c : Nat} {l : List Msg.Up} (hq : q < 18446744073709551616) (hc : c < 4294967296) (hl : l.length < 65536) (h : ∀ u ∈ l, Rec.check u = 0 ∧ FitU u) : Rec.opens (payR q c l) = some (q, c, l) := by
  rw [payR_ok h]
  have hs : (⟨(Lend.cat wsR [q, c, l.length] ++ l.flatMap Rec.bytes).toArray⟩ : ByteArray).size = 14 + (l.flatMap Rec.bytes).length := by
    rw [show (⟨(Lend.cat wsR [q, c, l.length] ++ l.flatMap Rec.bytes).toArray⟩ : ByteArray).size = (Lend.cat wsR [q, c, l.length] ++ l.flatMap Rec.bytes).length from List.size_toArray, List.length_append, cat_len]
  have he : (⟨(Lend.cat wsR [q, c, l.length] ++ l.flatMap Rec.bytes).toArray⟩ : ByteArray).extract 14 (⟨(Lend.cat wsR [q, c, l.length] ++ l.flatMap Rec.bytes).toArray⟩ : ByteArray).size = ⟨(l.flatMap Rec.bytes).toArray⟩ := bytes_ext (by
    rw [ext_data, List.take_of_length_le (by rw [Rec.dsz]; exact Nat.le_refl _)]
    exact List.drop_left' (cat_len _ _ _))
  have hd : (⟨(Lend.cat wsR [q, c, l.length] ++ l.flatMap Rec.bytes).toArray⟩ : ByteArray).data.toList = Lend.cat wsR [q, c, l.length] ++ l.flatMap Rec.bytes := rfl
  unfold Rec.opens
  rw [if_pos (by rw [hs]; omega), he, hd, rd_head _ _ _ _ hq hc hl, Rec.parse_text h]
  simp
/-- of a beginning of a record's bytes there is none -/
theorem opens_part {q c : Nat} {l : List Msg.Up} (hq : q < 18446744073709551616) (hc : c < 4294967296) (hl : l.length < 65536) (h : ∀ u ∈ l, Rec.check u = 0 ∧ FitU u) {n : Nat} (hn : n < (payR q c l).size) : Rec.opens ((payR q c l).extract 0 n) = none := by
  rw [payR_ok h] at hn ⊢
  rw [show (⟨(Lend.cat wsR [q, c, l.length] ++ l.flatMap Rec.bytes).toArray⟩ : ByteArray).size = (Lend.cat wsR [q, c, l.length] ++ l.flatMap Rec.bytes).length from List.size_toArray, List.length_append, cat_len] at hn
  have hz : ((⟨(Lend.cat wsR [q, c, l.length] ++ l.flatMap Rec.bytes).toArray⟩ : ByteArray).extract 0 n) = ⟨((Lend.cat wsR [q, c, l.length] ++ l.flatMap Rec.bytes).take n).toArray⟩ := bytes_ext (by rw [ext_data, List.drop_zero])
  rw [hz]
  have hs : (⟨((Lend.cat wsR [q, c, l.length] ++ l.flatMap Rec.bytes).take n).toArray⟩ : ByteArray).size = n := by
    rw [show (⟨((Lend.cat wsR [q, c, l.length] ++ l.flatMap Rec.bytes).take n).toArray⟩ : ByteArray).size = ((Lend.cat wsR [q, c, l.length] ++ l.flatMap Rec.bytes).take n).length from List.size_toArray, List.length_take, List.length_append, cat_len]
    omega
  unfold Rec.opens
  by_cases h14 : 14 ≤ n
  · have hx : (Lend.cat wsR [q, c, l.length] ++ l.flatMap Rec.bytes).take n = Lend.cat wsR [q, c, l.length] ++ (l.flatMap Rec.bytes).take (n - 14) := by
      rw [List.take_append, List.take_of_length_le (by rw [cat_len]; omega), cat_len]
    have he : (⟨((Lend.cat wsR [q, c, l.length] ++ l.flatMap Rec.bytes).take n).toArray⟩ : ByteArray).extract 14 (⟨((Lend.cat wsR [q, c, l.length] ++ l.flatMap Rec.bytes).take n).toArray⟩ : ByteArray).size = ⟨((l.flatMap Rec.bytes).take (n - 14)).toArray⟩ := bytes_ext (by
      rw [ext_data, List.take_of_length_le (by rw [Rec.dsz]; exact Nat.le_refl _)]
      show (List.take n _).drop 14 = _
      rw [hx]
      exact List.drop_left' (cat_len _ _ _))
    have hd : (⟨((Lend.cat wsR [q, c, l.length] ++ l.flatMap Rec.bytes).take n).toArray⟩ : ByteArray).data.toList = Lend.cat wsR [q, c, l.length] ++ (l.flatMap Rec.bytes).take (n - 14) := hx
    rw [if_pos (by rw [hs]; omega), he, hd, rd_head _ _ _ _ hq hc hl]
    cases hp : Rec.parseAll ⟨((l.flatMap Rec.bytes).take (n - 14)).toArray⟩ with
    | none => rfl
    | some m =>
      have := Rec.parse_part h (n := n - 14) (by omega) hp
      simp only
      rw [if_neg (by omega)]
  · rw [if_neg (by rw [hs]; omega)]
theorem cutS_same {s : ByteArray} (h : s.size ≤ 40) : cutS s = s := bytes_ext (by rw [cutS_data, List.take_of_length_le (by simpa using h)])
theorem cutL_same {l : List Msg.Up} (hl : l.length ≤ 12) (h : ∀ u ∈ l, Rec.check u = 0) : cutL l = l := by
  unfold cutL
  rw [List.take_of_length_le hl]
  refine (List.map_congr_left (g := id) fun u hu => ?_).trans (List.map_id l)
  obtain ⟨k, y, v, d⟩ := u
  obtain ⟨⟨_, h2, h3⟩, _⟩ := check_zero (h _ hu)
  show (⟨k, cutS y, cutS v, d⟩ : Msg.Up) = ⟨k, y, v, d⟩
  rw [cutS_same (by omega), cutS_same (by omega)]
theorem payR_ge {q c : Nat} {l : List Msg.Up} (h : ∀ u ∈ l, Rec.check u = 0 ∧ FitU u) : 14 ≤ (payR q c l).size := by
  rw [payR_ok h, show (⟨(Lend.cat wsR [q, c, l.length] ++ l.flatMap Rec.bytes).toArray⟩ : ByteArray).size = (Lend.cat wsR [q, c, l.length] ++ l.flatMap Rec.bytes).length from List.size_toArray, List.length_append, cat_len]
  omega
set_option maxRecDepth 100000 in
set_option maxHeartbeats 4000000 in
theorem same_any (l : List Msg.Up) (a b : Option Addr) (ca cb : Nat) (w : World) (hl : l.length ≤ 1000000) (h1 : Recs w a l) (h2 : Recs w b l) :
    Calls Try.prog 35 #[.slice a l.length ca, .slice b l.length cb] w fun e w' => e = .returned (.bool true) ∧ Ext w w' := by
  have H1 := Lib.hid h1; have H2 := Lib.hid h2
  clear h1 h2
  go_enter Try.func35, Try.ntmps35
  go_wp2_with fail
  go_loopw [13] (fun i wx => ∃ j : Nat, j ≤ l.length ∧ i = .int .i64 j ∧ Ext w wx) (fun i _ => l.length - (intOf i).toNat)
  case atStart => exact ⟨0, by omega, rfl, Ext.refl _⟩
  case round =>
    obtain ⟨j, hj, rfl, hex⟩ := hrel
    by_cases hlt : j < l.length
    · obtain ⟨b1, o1, rfl, a0, a1, a2, a3⟩ := (H1.out.ext hex) j hlt
      obtain ⟨b2, o2, rfl, c0, c1, c2, c3⟩ := (H2.out.ext hex) j hlt
      generalize l[j] = u at *
      obtain ⟨K, Y, V, D⟩ := u
      simp only at a0 a1 a2 a3 c0 c1 c2 c3
      go_wp2_with fail
      go_quiet (fail)
      go_wp2_with fail
      go_roundw
      case rel => exact ⟨j + 1, by omega, by go_num, hex.trans (Ext.drewN _ _)⟩
      case measure => simp [intOf]; omega
    · obtain rfl : j = l.length := by omega
      clear H1 H2 hlt hj
      go_wp2_with fail
      go_ret
      exact ⟨rfl, hex⟩
end Go.Proofs.Ytemhflafiephpaa
