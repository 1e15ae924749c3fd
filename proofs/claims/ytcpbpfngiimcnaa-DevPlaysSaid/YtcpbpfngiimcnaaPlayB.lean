/- DevPlays, in plain Lean: how much a device has counted. -/
import Derived.Test.YtcpbpfngiimcnaaPlayA
namespace Go.Proofs.Ytcpbpfngiimcnaa
namespace Dev
/-- a device after k acts at most -/
structure Upto (k : Nat) (d : St) : Prop where
  fuse : d.fuse < 9223372036854775808
  lose : d.lose < 9223372036854775808
  stray : d.stray < 9223372036854775808
  reads : d.reads ≤ k
  writes : d.writes ≤ k
  fls : d.fls ≤ k
  cache : d.cache.length ≤ k
variable {k : Nat} {d : St}
theorem Upto.fit (h : Upto k d) (hk : k ≤ 1000) : Fit d := by
  obtain ⟨h1, h2, h3, h4, h5, h6, h7⟩ := h
  exact ⟨h1, h2, h3, by omega, by omega, by omega, by omega⟩
theorem Upto.succ (h : Upto k d) : Upto (k + 1) d := by
  obtain ⟨h1, h2, h3, h4, h5, h6, h7⟩ := h
  exact ⟨h1, h2, h3, by omega, by omega, by omega, by omega⟩
theorem Upto.new : Upto 0 Dev.new := ⟨by decide, by decide, by decide, Nat.le_refl _, Nat.le_refl _, Nat.le_refl _, Nat.le_refl _⟩
theorem Upto.burn (h : Upto k d) : Upto k (burn d).1 := by
  obtain ⟨h1, h2, h3, h4, h5, h6, h7⟩ := h
  unfold Dev.burn
  split
  · exact ⟨h1, h2, h3, h4, h5, h6, h7⟩
  · split
    · exact ⟨by show 0 < _; omega, h2, h3, h4, h5, h6, h7⟩
    · exact ⟨by show d.fuse - 1 < _; omega, h2, h3, h4, h5, h6, h7⟩
theorem Upto.read (h : Upto k d) (i : Int) : Upto (k + 1) (read d i).1 := by
  unfold Dev.read
  split
  · exact h.succ
  · split
    · exact h.succ
    · split
      · exact h.succ
      · obtain ⟨h1, h2, h3, h4, h5, h6, h7⟩ := h
        exact ⟨h1, h2, h3, by show d.reads + 1 ≤ _; omega, by show d.writes ≤ _; omega, by show d.fls ≤ _; omega, by show d.cache.length ≤ _; omega⟩
theorem Upto.write (h : Upto k d) (i : Int) (s : ByteArray) : Upto (k + 1) (write d i s).1 := by
  unfold Dev.write
  split
  · exact h.succ
  · split
    · exact h.succ
    · split
      · exact h.succ
      · split
        · exact h.burn.succ
        · split
          · exact h.burn.succ
          · obtain ⟨h1, h2, h3, h4, h5, h6, h7⟩ := h
            obtain ⟨g1, g2, g3, g4, g5, g6, g7⟩ := (Upto.mk (k := k) (d := d) h1 h2 h3 h4 h5 h6 h7).burn
            refine ⟨g1, by show d.lose - 1 < _; omega, by show d.stray - 1 < _; omega, by show (Dev.burn d).1.reads ≤ _; omega, by show d.writes + 1 ≤ _; omega, by show (Dev.burn d).1.fls ≤ _; omega, ?_⟩
            show (match aim d i with | some j => d.cache ++ [(j, s)] | none => d.cache).length ≤ _
            split
            · rw [List.length_append]; simp; omega
            · omega
theorem Upto.flush (h : Upto k d) : Upto (k + 1) (flush d).1 := by
  unfold Dev.flush
  split
  · exact h.succ
  · split
    · exact h.burn.succ
    · obtain ⟨h1, h2, h3, h4, h5, h6, h7⟩ := h
      obtain ⟨g1, g2, g3, g4, g5, g6, g7⟩ := (Upto.mk (k := k) (d := d) h1 h2 h3 h4 h5 h6 h7).burn
      exact ⟨g1, g2, g3, by show (Dev.burn d).1.reads ≤ _; omega, by show (Dev.burn d).1.writes ≤ _; omega, by show d.fls + 1 ≤ _; omega, Nat.zero_le _⟩
theorem Upto.stick (h : Upto k d) (i : Int) : Upto (k + 1) (stick d i) := by
  unfold Dev.stick
  split
  · obtain ⟨h1, h2, h3, h4, h5, h6, h7⟩ := h
    refine ⟨h1, h2, h3, by show d.reads ≤ _; omega, by show d.writes ≤ _; omega, by show d.fls ≤ _; omega, ?_⟩
    have := List.length_filter_le (fun w => decide (w.1 ≠ i.toNat)) d.cache
    show (d.cache.filter fun w => decide (w.1 ≠ i.toNat)).length ≤ _
    omega
  · exact h.succ
theorem Upto.garble (h : Upto k d) (i a : Int) (y : UInt8) : Upto (k + 1) (garble d i a y) := by
  unfold Dev.garble
  split
  · obtain ⟨h1, h2, h3, h4, h5, h6, h7⟩ := h
    refine ⟨h1, h2, h3, by show d.reads ≤ _; omega, by show d.writes ≤ _; omega, by show d.fls ≤ _; omega, ?_⟩
    show (d.cache.map _).length ≤ _
    rw [List.length_map]
    omega
  · exact h.succ
theorem Upto.crash (h : Upto k d) (fs : List Int) : Upto (k + 1) (crash d fs) := by
  obtain ⟨h1, h2, h3, h4, h5, h6, h7⟩ := h
  exact ⟨by show 0 < _; omega, h2, h3, by show d.reads ≤ _; omega, by show d.writes ≤ _; omega, by show d.fls ≤ _; omega, Nat.zero_le _⟩
theorem Upto.lose' (h : Upto k d) {n : Int} (hn : n ≤ 9223372036854775807) : Upto (k + 1) { d with lose := n.toNat } := by
  obtain ⟨h1, h2, h3, h4, h5, h6, h7⟩ := h
  exact ⟨h1, by show n.toNat < _; omega, h3, by show d.reads ≤ _; omega, by show d.writes ≤ _; omega, by show d.fls ≤ _; omega, by show d.cache.length ≤ _; omega⟩
theorem Upto.stray' (h : Upto k d) {n t : Int} (hn : n ≤ 9223372036854775807) : Upto (k + 1) { d with stray := n.toNat, «to» := t } := by
  obtain ⟨h1, h2, h3, h4, h5, h6, h7⟩ := h
  exact ⟨h1, h2, by show n.toNat < _; omega, by show d.reads ≤ _; omega, by show d.writes ≤ _; omega, by show d.fls ≤ _; omega, by show d.cache.length ≤ _; omega⟩
theorem Upto.fuse' (h : Upto k d) {n : Int} (hn : n ≤ 9223372036854775807) : Upto (k + 1) { d with fuse := n.toNat } := by
  obtain ⟨h1, h2, h3, h4, h5, h6, h7⟩ := h
  exact ⟨by show n.toNat < _; omega, h2, h3, by show d.reads ≤ _; omega, by show d.writes ≤ _; omega, by show d.fls ≤ _; omega, by show d.cache.length ≤ _; omega⟩
theorem Upto.kill (h : Upto k d) : Upto (k + 1) { d with gone := true } := by
  obtain ⟨h1, h2, h3, h4, h5, h6, h7⟩ := h
  exact ⟨h1, h2, h3, by show d.reads ≤ _; omega, by show d.writes ≤ _; omega, by show d.fls ≤ _; omega, by show d.cache.length ≤ _; omega⟩
end Dev
end Go.Proofs.Ytcpbpfngiimcnaa
