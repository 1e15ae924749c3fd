/- A device, in plain Lean: what the document says of it. No program in sight. -/
namespace Go.Proofs.Ytcpbpfngiimcnaa
namespace Dev
structure St where
  media : List ByteArray
  bad : List Bool
  cache : List (Nat × ByteArray)
  fuse : Nat
  lose : Nat
  stray : Nat
  to : Int
  off : Bool
  gone : Bool
  reads : Nat
  writes : Nat
  fls : Nat
def ready (d : St) : Nat := if d.off then 6 else if d.gone then 8 else 0
/-- what a sector reads, the cache being what it is -/
def look (c : List (Nat × ByteArray)) (i : Nat) (z : ByteArray) : ByteArray := c.foldl (fun s w => if w.1 = i then w.2 else s) z
def isSec (i : Int) : Bool := decide (0 ≤ i) && decide (i < 9)
def read (d : St) (i : Int) : St × ByteArray × Nat :=
  if ready d ≠ 0 then (d, .empty, ready d)
  else if isSec i = false then (d, .empty, 3)
  else if d.bad.getD i.toNat false then (d, .empty, 7)
  else ({ d with reads := d.reads + 1 }, look d.cache i.toNat (d.media.getD i.toNat .empty), 0)
/-- something is to be done: does the power fail? -/
def burn (d : St) : St × Bool :=
  if d.fuse = 0 then (d, false)
  else if d.fuse = 1 then ({ d with fuse := 0, off := true }, true)
  else ({ d with fuse := d.fuse - 1 }, false)
/-- a write that is done: where to, if anywhere -/
def aim (d : St) (i : Int) : Option Nat :=
  if d.stray = 1 then (if d.lose = 1 ∨ isSec d.to = false ∨ d.bad.getD d.to.toNat false = true then none else some d.to.toNat)
  else if d.lose = 1 then none else some i.toNat
def write (d : St) (i : Int) (s : ByteArray) : St × Nat :=
  if ready d ≠ 0 then (d, ready d)
  else if isSec i = false then (d, 3)
  else if s.size ≠ 128 then (d, 2)
  else if (burn d).2 then ((burn d).1, 6)
  else if d.bad.getD i.toNat false then ((burn d).1, 7)
  else ({ (burn d).1 with writes := d.writes + 1, lose := d.lose - 1, stray := d.stray - 1, cache := match aim d i with
      | some j => d.cache ++ [(j, s)]
      | none => d.cache }, 0)
/-- what lasts when the cache is written -/
def settled (m : List ByteArray) (c : List (Nat × ByteArray)) : List ByteArray := c.foldl (fun m w => m.set w.1 w.2) m
def flush (d : St) : St × Nat :=
  if ready d ≠ 0 then (d, ready d)
  else if (burn d).2 then ((burn d).1, 6)
  else ({ (burn d).1 with media := settled d.media d.cache, cache := [], fls := d.fls + 1 }, 0)
def stick (d : St) (i : Int) : St :=
  if isSec i then { d with bad := d.bad.set i.toNat true, cache := d.cache.filter fun w => decide (w.1 ≠ i.toNat) } else d
def turn (s : ByteArray) (a : Nat) (b : UInt8) : ByteArray := ⟨(s.data.toList.set a (s.data.toList.getD a 0 ^^^ b)).toArray⟩
def garble (d : St) (i a : Int) (b : UInt8) : St :=
  if isSec i = true ∧ 0 ≤ a then { d with media := d.media.set i.toNat (turn (d.media.getD i.toNat .empty) (a % 128).toNat b), cache := d.cache.map fun w => if w.1 = i.toNat then (w.1, turn w.2 (a % 128).toNat b) else w } else d
/-- how much of a write is kept -/
def kept (f : Int) : Nat := if f = 1 then 128 else if 2 ≤ f then min (f - 2).toNat 127 else 0
def settle (m : List ByteArray) (w : Nat × ByteArray) (f : Int) : List ByteArray := m.set w.1 (w.2.extract 0 (kept f) ++ (m.getD w.1 .empty).extract (kept f) 128)
def crash (d : St) (fs : List Int) : St :=
  { d with media := (d.cache.zip fs).foldl (fun m p => settle m p.1 p.2) d.media, cache := [], off := false, fuse := 0 }
def zero : ByteArray := ⟨Array.replicate 128 0⟩
def new : St := ⟨List.replicate 9 zero, List.replicate 9 false, [], 0, 0, 0, 0, false, false, 0, 0, 0⟩
/-- what holds of a device all along -/
structure Ok (d : St) : Prop where
  media : d.media.length = 9
  bad : d.bad.length = 9
  text : ∀ s ∈ d.media, s.size = 128
  cache : ∀ w ∈ d.cache, w.1 < 9 ∧ w.2.size = 128
theorem Ok.same {d d' : St} (h : Ok d) (h1 : d'.media = d.media) (h2 : d'.bad = d.bad) (h3 : d'.cache = d.cache) : Ok d' :=
  ⟨by rw [h1]; exact h.media, by rw [h2]; exact h.bad, by rw [h1]; exact h.text, by rw [h3]; exact h.cache⟩
theorem isSec_iff {i : Int} : isSec i = true ↔ 0 ≤ i ∧ i < 9 := by simp [isSec]
theorem ok_new : Ok new := ⟨rfl, rfl, fun s hs => by simp [new] at hs; rw [hs]; rfl, fun w hw => by simp [new] at hw⟩
theorem look_size {c : List (Nat × ByteArray)} {i : Nat} {z : ByteArray} (hc : ∀ w ∈ c, w.2.size = 128) (hz : z.size = 128) : (look c i z).size = 128 := by
  unfold look
  induction c generalizing z with
  | nil => exact hz
  | cons w c ih =>
    rw [List.foldl_cons]
    refine ih (fun v hv => hc v (List.mem_cons_of_mem _ hv)) ?_
    split
    · exact hc w (List.mem_cons_self ..)
    · exact hz
theorem burn_ok {d : St} (h : Ok d) : Ok (burn d).1 := by
  obtain ⟨h1, h2, h3, h4⟩ := h
  unfold burn
  split
  · exact ⟨h1, h2, h3, h4⟩
  · split <;> exact ⟨h1, h2, h3, h4⟩
theorem aim_lt {d : St} {i : Int} {j : Nat} (hi : isSec i = true) (h : aim d i = some j) : j < 9 := by
  have h1 := isSec_iff.1 hi
  unfold aim at h
  split at h
  · split at h
    · cases h
    · rename_i h2
      have h3 : isSec d.to = true := by
        cases h4 : isSec d.to with
        | true => rfl
        | false => exact absurd (.inr (.inl h4)) h2
      have := isSec_iff.1 h3
      cases h
      omega
  · split at h
    · cases h
    · cases h
      omega
theorem write_ok {d : St} {i : Int} {s : ByteArray} (h : Ok d) : Ok (write d i s).1 := by
  have hb := burn_ok h
  unfold write
  split
  · exact h
  · split
    · exact h
    · rename_i _ h2
      split
      · exact h
      · rename_i h3
        split
        · exact hb
        · split
          · exact hb
          · refine ⟨hb.media, hb.bad, hb.text, ?_⟩
            show ∀ w ∈ (match aim d i with | some j => d.cache ++ [(j, s)] | none => d.cache), w.1 < 9 ∧ w.2.size = 128
            cases ha : aim d i with
            | none => exact h.cache
            | some j =>
              intro w hw
              rcases List.mem_append.1 hw with hw | hw
              · exact h.cache w hw
              · obtain rfl := List.mem_singleton.1 hw
                exact ⟨aim_lt (by simpa using h2) ha, by simpa using h3⟩
theorem settled_ok {m : List ByteArray} {c : List (Nat × ByteArray)} (hm : m.length = 9) (ht : ∀ s ∈ m, s.size = 128) (hc : ∀ w ∈ c, w.1 < 9 ∧ w.2.size = 128) : (settled m c).length = 9 ∧ ∀ s ∈ settled m c, s.size = 128 := by
  unfold settled
  induction c generalizing m with
  | nil => exact ⟨hm, ht⟩
  | cons w c ih =>
    rw [List.foldl_cons]
    refine ih (by simpa using hm) (fun s hs => ?_) (fun v hv => hc v (List.mem_cons_of_mem _ hv))
    rcases List.mem_or_eq_of_mem_set hs with hs | rfl
    · exact ht s hs
    · exact (hc w (List.mem_cons_self ..)).2
end Dev
end Go.Proofs.Ytcpbpfngiimcnaa
