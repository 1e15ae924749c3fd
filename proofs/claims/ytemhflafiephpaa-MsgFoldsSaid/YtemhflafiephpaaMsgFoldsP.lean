/- Updates that are joined do what all do, one behind the other. -/
import Derived.Test.YtemhflafiephpaaMsgSpec
namespace Go.Proofs.Ytemhflafiephpaa.Msg
/-- one of the three kinds -/
def K3 (u : Up) : Prop := u.kind = 1 ∨ u.kind = 2 ∨ u.kind = 3
theorem on_const {u : Up} (h : u.kind = 1 ∨ u.kind = 2) (p q : ByteArray × Bool) : on p u = on q u := by
  rcases h with h | h
  · rw [on_put _ _ h, on_put _ _ h]
  · rw [on_del _ _ h, on_del _ _ h]
theorem on_norm {u : Up} (h : K3 u) (p : ByteArray × Bool) : on (if p.2 then p.1 else ByteArray.empty, p.2) u = on p u := by
  obtain ⟨s, t⟩ := p
  cases t with
  | true => rfl
  | false =>
    rcases h with h | h | h
    · exact on_const (.inl h) _ _
    · exact on_const (.inr h) _ _
    · rw [on_add_new _ _ h, on_add_new _ _ h]
theorem on_join {a b : Up} (ha : K3 a) (hb : K3 b) (p : ByteArray × Bool) : on p (join a b) = on (on p a) b := by
  by_cases h3 : b.kind = 3
  · by_cases h1 : a.kind = 3
    · have e : join a b = ⟨3, b.key, b.value, (b.delta + a.delta) % 18446744073709551616⟩ := by unfold join; rw [if_neg (by omega), if_pos h1]
      rw [e]
      obtain ⟨s, t⟩ := p
      cases t with
      | false =>
        rw [on_add_new _ _ rfl, on_add_new _ _ h1, on_add_num _ _ h3 (val_size _), num_val]
        congr 2
        show (b.delta + a.delta) % 18446744073709551616 = _
        omega
      | true =>
        by_cases h8 : s.size = 8
        · rw [on_add_num _ _ rfl h8, on_add_num _ _ h1 h8, on_add_num _ _ h3 (val_size _), num_val]
          congr 2
          show (num s + (b.delta + a.delta) % 18446744073709551616) % 18446744073709551616 = _
          omega
        · rw [on_add_text _ _ rfl h8, on_add_text _ _ h1 h8, on_add_text _ _ h3 h8]
    · have e : join a b = ⟨1, b.key, (on (on (ByteArray.empty, false) a) b).1, 0⟩ := by unfold join; rw [if_neg (by omega), if_neg h1]
      have h12 : a.kind = 1 ∨ a.kind = 2 := by unfold K3 at ha; omega
      rw [e, on_put _ _ rfl, on_const h12 p (ByteArray.empty, false)]
      have h2 : (on (on (ByteArray.empty, false) a) b).2 = true := by
        rcases h12 with h | h
        · rw [on_put _ _ h]
          by_cases h8 : a.value.size = 8
          · rw [on_add_num _ _ h3 h8]
          · rw [on_add_text _ _ h3 h8]
        · rw [on_del _ _ h, on_add_new _ _ h3]
      rw [← h2]
  · have e : join a b = b := by unfold join; rw [if_pos h3]
    rw [e]
    exact on_const (by unfold K3 at hb; omega) _ _
theorem join_k3 {a b : Up} (hb : K3 b) : K3 (join a b) := by
  unfold join
  split
  · exact hb
  · split
    · exact .inr (.inr rfl)
    · exact .inl rfl
theorem join_value {a b : Up} (n : Nat) (h8 : 8 ≤ n) (ha : a.value.size ≤ n) (hb : b.value.size ≤ n) : (join a b).value.size ≤ n := by
  unfold join
  split
  · exact hb
  · split
    · exact hb
    · exact on_size _ _ n h8 (on_size _ _ n h8 (Nat.zero_le _) ha) hb
theorem join_delta {a b : Up} (hb : b.delta < 18446744073709551616) : (join a b).delta < 18446744073709551616 := by
  unfold join
  split
  · exact hb
  · split
    · exact Nat.mod_lt _ (by decide)
    · show 0 < _; decide
/-- what one update does, all of l do -/
def Does (u : Up) (l : List Up) : Prop := ∀ p, on p u = l.foldl on p
theorem does_one (u : Up) : Does u [u] := fun _ => rfl
theorem does_snoc {u v : Up} {l : List Up} (hu : K3 u) (hv : K3 v) (h : Does u l) : Does (join u v) (l ++ [v]) := fun p => by
  rw [on_join hu hv, h p, List.foldl_append]; rfl
theorem does_cons {u v : Up} {l : List Up} (hu : K3 u) (hv : K3 v) (h : Does v l) : Does (join u v) (u :: l) := fun p => by
  rw [on_join hu hv, h]; rfl
theorem does_all {u : Up} {l : List Up} (hu : K3 u) (h : Does u l) (p : ByteArray × Bool) : on p u = all p l := by
  rw [← on_norm hu p, h]; rfl
theorem does_end {u : Up} {l m : List Up} (h : Does u m) (p : ByteArray × Bool) : all p (l ++ [u]) = all p (l ++ m) := by
  unfold all
  rw [List.foldl_append, List.foldl_append]
  exact h _
end Go.Proofs.Ytemhflafiephpaa.Msg
