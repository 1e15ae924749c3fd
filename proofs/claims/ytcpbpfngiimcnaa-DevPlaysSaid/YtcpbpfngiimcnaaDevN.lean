/- DevLasts, in plain Lean: a device without faults. -/
import Derived.Test.YtcpbpfngiimcnaaDevF
namespace Go.Proofs.Ytcpbpfngiimcnaa
namespace Dev
theorem look_snoc (c : List (Nat × ByteArray)) (i j : Nat) (s z : ByteArray) : look (c ++ [(i, s)]) j z = if i = j then s else look c j z := by
  unfold look
  rw [List.foldl_append]
  rfl
theorem getD_set (m : List ByteArray) (i j : Nat) (s : ByteArray) (hi : i < m.length) : (m.set i s).getD j .empty = if i = j then s else m.getD j .empty := by
  rw [List.getD_eq_getElem?_getD, List.getD_eq_getElem?_getD, List.getElem?_set]
  by_cases h : i = j
  · rw [if_pos h, if_pos h, if_pos (by omega)]; rfl
  · rw [if_neg h, if_neg h]
/-- what is flushed is what was read -/
theorem settled_look {m : List ByteArray} {c : List (Nat × ByteArray)} (hm : m.length = 9) (hc : ∀ w ∈ c, w.1 < 9) (i : Nat) : (settled m c).getD i .empty = look c i (m.getD i .empty) := by
  unfold settled look
  induction c generalizing m with
  | nil => rfl
  | cons w c ih =>
    rw [List.foldl_cons, List.foldl_cons, ih (by simpa using hm) (fun v hv => hc v (List.mem_cons_of_mem _ hv)), getD_set _ _ _ _ (by rw [hm]; exact hc w (List.mem_cons_self ..))]
theorem settles_other {M : List ByteArray} {l : List ((Nat × ByteArray) × Int)} {i : Nat} (h : ∀ p ∈ l, p.1.1 ≠ i) : (settles M l).getD i .empty = M.getD i .empty := by
  unfold settles
  induction l generalizing M with
  | nil => rfl
  | cons p l ih =>
    rw [List.foldl_cons, ih fun v hv => h v (List.mem_cons_of_mem _ hv)]
    unfold settle
    rw [List.getD_eq_getElem?_getD, List.getElem?_set_ne (h p (List.mem_cons_self ..)), ← List.getD_eq_getElem?_getD]
/-- a device without faults: what lasts is old, what is read is now; a sector that was written since is one of later's -/
structure Calm (old now : List ByteArray) (later : Nat → Bool) (n : Nat) (d : St) : Prop where
  off : d.off = false
  gone : d.gone = false
  fuse : d.fuse = 0
  lose : d.lose = 0
  stray : d.stray = 0
  bad : ∀ i, d.bad.getD i false = false
  old : ∀ i, i < 9 → d.media.getD i .empty = old.getD i .empty
  now : ∀ i, i < 9 → look d.cache i (d.media.getD i .empty) = now.getD i .empty
  later : ∀ w ∈ d.cache, later w.1 = true
  reads : d.reads ≤ n
  writes : d.writes ≤ n
  fls : d.fls ≤ n
  len : d.cache.length ≤ n
variable {old now : List ByteArray} {later : Nat → Bool} {n : Nat} {d : St}
theorem Calm.fit (h : Calm old now later n d) (hn : n ≤ 1000) : Fit d := by
  obtain ⟨h1, h2, h3, h4, h5, _, _, _, _, h6, h7, h8, h9⟩ := h
  exact ⟨by omega, by omega, by omega, by omega, by omega, by omega, by omega⟩
theorem Calm.ready (h : Calm old now later n d) : Dev.ready d = 0 := by
  unfold Dev.ready
  rw [h.off, h.gone]
  rfl
theorem Calm.burn (h : Calm old now later n d) : Dev.burn d = (d, false) := by
  unfold Dev.burn
  rw [if_pos h.fuse]
theorem Calm.flush (h : Calm old now later n d) (hok : Ok d) : ∃ d', Dev.flush d = (d', 0) ∧ Calm now now (fun _ => false) (n + 1) d' := by
  refine ⟨{ d with media := settled d.media d.cache, cache := [], fls := d.fls + 1 }, ?_, ?_⟩
  · unfold Dev.flush
    rw [h.ready, h.burn]
    rfl
  · have hs := settled_look (c := d.cache) hok.media (fun w hw => (hok.cache w hw).1)
    obtain ⟨h1, h2, h3, h4, h5, hb, ho, hn, hl, h6, h7, h8, h9⟩ := h
    exact ⟨h1, h2, h3, h4, h5, hb, fun i hi => (hs i).trans (hn i hi), fun i hi => (hs i).trans (hn i hi), fun w hw => (by cases hw), by show d.reads ≤ _; omega, by show d.writes ≤ _; omega, by show d.fls + 1 ≤ _; omega, Nat.zero_le _⟩
theorem Calm.write (h : Calm old now later n d) {i : Nat} (hi : i < 9) {s : ByteArray} (hs : s.size = 128) (hnl : now.length = 9) : ∃ d', Dev.write d (i : Int) s = (d', 0) ∧ Calm old (now.set i s) (fun j => if i = j then true else later j) (n + 1) d' := by
  have h2 : isSec (i : Int) = true := isSec_iff.2 (by omega)
  have ha : aim d (i : Int) = some i := by
    unfold aim
    rw [if_neg (by rw [h.stray]; decide), if_neg (by rw [h.lose]; decide), Int.toNat_natCast]
  refine ⟨{ d with writes := d.writes + 1, lose := d.lose - 1, stray := d.stray - 1, cache := d.cache ++ [(i, s)] }, ?_, ?_⟩
  · unfold Dev.write
    rw [h.ready, h.burn, if_neg (by decide), if_neg (by rw [h2]; decide), if_neg (by omega), if_neg (fun h => by cases h), Int.toNat_natCast, h.bad i, if_neg (by decide), ha]
  · obtain ⟨h1, h2, h3, h4, h5, hb, ho, hn, hl, h6, h7, h8, h9⟩ := h
    refine ⟨h1, h2, h3, by show d.lose - 1 = 0; omega, by show d.stray - 1 = 0; omega, hb, ho, fun j hj => ?_, fun w hw => ?_, by show d.reads ≤ _; omega, by show d.writes + 1 ≤ _; omega, by show d.fls ≤ _; omega, by show (d.cache ++ [(i, s)]).length ≤ _; rw [List.length_append]; simp; omega⟩
    · show look (d.cache ++ [(i, s)]) j _ = _
      rw [look_snoc, getD_set _ _ _ _ (by omega)]
      split
      · rfl
      · exact hn j hj
    · rcases List.mem_append.1 hw with hw | hw
      · have := hl w hw
        show (if i = w.1 then true else later w.1) = true
        split
        · rfl
        · exact this
      · obtain rfl := List.mem_singleton.1 hw
        exact if_pos rfl
theorem Calm.read (h : Calm old now later n d) {i : Nat} (hi : i < 9) : ∃ d', Dev.read d (i : Int) = (d', now.getD i .empty, 0) ∧ Calm old now later (n + 1) d' := by
  have h2 : isSec (i : Int) = true := isSec_iff.2 (by omega)
  refine ⟨{ d with reads := d.reads + 1 }, ?_, ?_⟩
  · unfold Dev.read
    rw [h.ready, if_neg (by decide), if_neg (by rw [h2]; decide), Int.toNat_natCast, h.bad i, if_neg (by decide), h.now i hi]
  · obtain ⟨h1, h2, h3, h4, h5, hb, ho, hn, hl, h6, h7, h8, h9⟩ := h
    exact ⟨h1, h2, h3, h4, h5, hb, ho, hn, hl, by show d.reads + 1 ≤ _; omega, by show d.writes ≤ _; omega, by show d.fls ≤ _; omega, by show d.cache.length ≤ _; omega⟩
/-- after the power failed: what was flushed and not written since is there -/
structure Woke (old : List ByteArray) (later : Nat → Bool) (n : Nat) (d : St) : Prop where
  off : d.off = false
  gone : d.gone = false
  fuse : d.fuse = 0
  lose : d.lose = 0
  stray : d.stray = 0
  bad : ∀ i, d.bad.getD i false = false
  old : ∀ i, i < 9 → later i = false → d.media.getD i .empty = old.getD i .empty
  reads : d.reads ≤ n
  writes : d.writes ≤ n
  fls : d.fls ≤ n
  cache : d.cache = []
theorem Calm.crash (h : Calm old now later n d) (fs : List Int) : Woke old later n (Dev.crash d fs) := by
  obtain ⟨h1, h2, h3, h4, h5, hb, ho, hn, hl, h6, h7, h8, h9⟩ := h
  refine ⟨rfl, h2, rfl, h4, h5, hb, fun i hi hli => ?_, h6, h7, h8, rfl⟩
  show (settles d.media (d.cache.zip fs)).getD i .empty = _
  rw [settles_other (fun p hp e => ?_), ho i hi]
  have := hl p.1 (List.of_mem_zip hp).1
  rw [e, hli] at this
  cases this
theorem Woke.fit (h : Woke old later n d) (hn : n ≤ 1000) : Fit d := by
  obtain ⟨h1, h2, h3, h4, h5, _, _, h6, h7, h8, h9⟩ := h
  exact ⟨by omega, by omega, by omega, by omega, by omega, by omega, by rw [h9]; exact Nat.zero_le _⟩
theorem Woke.read (h : Woke old later n d) {i : Nat} (hi : i < 9) : ∃ d' z, Dev.read d (i : Int) = (d', z, 0) ∧ (later i = false → z = old.getD i .empty) ∧ Woke old later (n + 1) d' := by
  have h2 : isSec (i : Int) = true := isSec_iff.2 (by omega)
  have hr : Dev.ready d = 0 := by
    unfold Dev.ready
    rw [h.off, h.gone]
    rfl
  refine ⟨{ d with reads := d.reads + 1 }, d.media.getD i .empty, ?_, h.old i hi, ?_⟩
  · unfold Dev.read
    rw [hr, if_neg (by decide), if_neg (by rw [h2]; decide), Int.toNat_natCast, h.bad i, if_neg (by decide), h.cache]
    rfl
  · obtain ⟨h1, h2, h3, h4, h5, hb, ho, h6, h7, h8, h9⟩ := h
    exact ⟨h1, h2, h3, h4, h5, hb, ho, by show d.reads + 1 ≤ _; omega, by show d.writes ≤ _; omega, by show d.fls ≤ _; omega, h9⟩
theorem calm_new : Calm (List.replicate 9 zero) (List.replicate 9 zero) (fun _ => false) 0 new := by
  refine ⟨rfl, rfl, rfl, rfl, rfl, fun i => ?_, fun i hi => rfl, fun i hi => rfl, fun w hw => (by cases hw), Nat.le_refl _, Nat.le_refl _, Nat.le_refl _, Nat.le_refl _⟩
  show (List.replicate 9 false).getD i false = false
  rw [List.getD_eq_getElem?_getD, List.getElem?_replicate]
  split <;> rfl
end Dev
end Go.Proofs.Ytcpbpfngiimcnaa
