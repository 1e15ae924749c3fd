/- Contracts of msg.All, law14.of and law14.tame. -/
import Derived.Test.YtemhflafiephpaaRecs
import Derived.Test.YtemhflafiephpaaUps
import Derived.Test.YtemhflafiephpaaLaw14
import Derived.Test.YtemhflafiephpaaBoxes
import Derived.Deep.DeepCutAuto
namespace Go.Proofs.Ytemhflafiephpaa
open Go.RowKit
theorem all_any (s : ByteArray) (t : Bool) (l : List Msg.Up) (a : Option Addr) (ca : Nat) (w : World) (hl : l.length ≤ 1000) (hs : s.size ≤ maxLen) (hR : Recs w a l) (hS : ∀ u ∈ l, SmallUp u) :
    Calls Try.prog 21 #[.string s, .bool t, .slice a l.length ca] w fun e w' => e = .returned (pairV (Msg.all (s, t) l)) ∧ Ext w w' := by
  have HR := Lib.hid hR; clear hR
  obtain ⟨p, hp⟩ : ∃ p, p = (s, t) := ⟨_, rfl⟩
  have HPP := Lib.hid hp
  rw [← hp]
  clear hp
  cases t
  all_goals
    go_enter Try.func21, Try.ntmps21
    go_wp2_with fail
    go_loopw [0, 1, 14] (fun x y i wx => ∃ (k : Nat) (S : ByteArray) (b : Bool), k ≤ l.length ∧ i = .int .i64 k ∧ x = .string S ∧ y = .bool b ∧ S.size ≤ maxLen ∧ (S, b) = Msg.all p (l.take k) ∧ Ext w wx) (fun _ _ i _ => l.length - (intOf i).toNat)
    case atStart => exact ⟨0, _, _, by omega, rfl, rfl, rfl, by first | exact hs | exact Nat.zero_le _, by rw [List.take_zero, Msg.all_nil, HPP.out]; rfl, Ext.refl _⟩
    case round =>
      obtain ⟨k, S, b, hk, rfl, rfl, rfl, hSs, hall, hex⟩ := hrel
      have HA := Lib.hid hall; clear hall
      by_cases hlt : k < l.length
      · obtain ⟨b1, o1, rfl, hc0, hc1, hc2, hc3⟩ := (HR.out.ext hex) k hlt
        obtain ⟨s1, s2, s3⟩ := hS l[k] (by simp)
        have htk := Msg.all_take p hlt
        rw [← HA.out] at htk
        have hsz := Msg.on_size (S, b) l[k] maxLen (by decide) hSs s2
        have HT := Lib.hid htk; clear htk
        generalize l[k] = u at *
        obtain ⟨K, Ky, V, D⟩ := u
        simp only at hc0 hc1 hc2 hc3
        obtain ⟨s1, s3⟩ : K < 256 ∧ D < 18446744073709551616 := ⟨s1, s3⟩
        go_wp2_with fail
        refine (on_any S Ky V b K D _ s1 hSs s3).mono ?_
        rintro e w1 ⟨rfl, he1⟩
        obtain ⟨S2, b2, hP⟩ : ∃ S2 b2, Msg.on (S, b) ⟨K, Ky, V, D⟩ = (S2, b2) := ⟨_, _, rfl⟩
        rw [hP] at hsz
        have HP := Lib.hid hP
        rw [hP]
        clear hP
        unfold pairV
        go_wp2_with fail
        go_roundw
        case rel => exact ⟨k + 1, S2, b2, by omega, by go_num, rfl, rfl, hsz, by rw [HT.out, HP.out], hex.trans ((Ext.alloc _ _).trans he1)⟩
        case measure => simp [intOf]; omega
      · obtain rfl : k = l.length := by omega
        rw [List.take_of_length_le (Nat.le_refl _)] at HA
        go_wp2_with fail
        go_ret2
        exact ⟨by rw [← HA.out]; rfl, hex⟩
theorem all_len {n : Nat} (s : ByteArray) (t : Bool) (l : List Msg.Up) (hn : l.length = n) (a : Option Addr) (ca : Nat) (w : World) (hl : n ≤ 1000) (hs : s.size ≤ maxLen) (hR : Recs w a l) (hS : ∀ u ∈ l, SmallUp u) :
    Calls Try.prog 21 #[.string s, .bool t, .slice a n ca] w fun e w' => e = .returned (pairV (Msg.all (s, t) l)) ∧ Ext w w' := by
  subst hn
  exact all_any s t l a ca w hl hs hR hS
def keyK : ByteArray := ⟨#[107]⟩
def updZ : Array Value := #[.int .u8 0, .string ⟨#[]⟩, .string ⟨#[]⟩, .int .u64 0]
def updC (u : Msg.Up) : Array Value := #[.int .u8 (u.kind : Int), .string u.key, .string u.value, .int .u64 (u.delta : Int)]
theorem cut_le (a : ByteArray) (n : Nat) : (a.extract 0 n).size ≤ n ∧ (a.extract 0 n).size ≤ a.size := by simp; omega
set_option maxRecDepth 100000 in
set_option maxHeartbeats 1000000 in
theorem of_any (k d : Nat) (v : ByteArray) (w : World) (hv : v.size ≤ maxLen) :
    Calls Try.prog 18 #[.agg #[.int .u8 (k : Int), .string v, .int .u64 (d : Int)]] w fun e w' =>
      ∃ v', v'.size ≤ 40 ∧ v'.size ≤ v.size ∧ e = .returned (.tuple #[upV ⟨k, keyK, v', d⟩, upV ⟨k, keyK, v', d⟩]) ∧ Ext w w' := by
  unfold maxLen at hv
  go_enter Try.func18, Try.ntmps18
  go_wp2_with fail
  all_goals
    obtain ⟨wc, hwc⟩ : ∃ wc, wc = ((w.alloc (.cells #[.int .u8 (k : Int), .string v, .int .u64 (d : Int)] 34)).alloc (.cells #[.int .u8 0, .string ⟨#[]⟩, .string ⟨#[]⟩, .int .u64 0] 37)).alloc (.cells #[.int .u8 0, .string ⟨#[]⟩, .string ⟨#[]⟩, .int .u64 0] 39) := ⟨_, rfl⟩
    have c0 : wc.cell? ⟨w.heap.size, 0, none⟩ = some (.int .u8 (k : Int)) := by rw [hwc]; exact cell_ext (cell_ext (World.cell?_alloc_new _ _ _ _) (Ext.alloc _ _)) (Ext.alloc _ _)
    have c2 : wc.cell? ⟨w.heap.size, 2, none⟩ = some (.int .u64 (d : Int)) := by rw [hwc]; exact cell_ext (cell_ext (World.cell?_alloc_new _ _ _ _) (Ext.alloc _ _)) (Ext.alloc _ _)
    have r1 : RowIs (w.heap.size + 1) 37 updZ wc := by rw [hwc, ← world_size]; exact (RowIs.new _ _ _).ext (Ext.alloc _ _)
    have r2 : RowIs (w.heap.size + 1 + 1) 39 updZ wc := by rw [hwc, ← world_size w, ← world_size (w.alloc _)]; exact RowIs.new _ _ _
    have he : Ext w wc := by rw [hwc]; exact (Ext.alloc _ _).trans ((Ext.alloc _ _).trans (Ext.alloc _ _))
    rw [← hwc]
    clear hwc
  · have h1 := (cut_le v 40).1
    have h2 := (cut_le v 40).2
    have m1 : (w.heap.size + 1, updC ⟨k, keyK, v.extract 0 40, d⟩, 37) ∈ [(w.heap.size + 1, updC ⟨k, keyK, v.extract 0 40, d⟩, 37), (w.heap.size + 1 + 1, updC ⟨k, keyK, v.extract 0 40, d⟩, 39)] := List.mem_cons_self
    have m2 : (w.heap.size + 1 + 1, updC ⟨k, keyK, v.extract 0 40, d⟩, 39) ∈ [(w.heap.size + 1, updC ⟨k, keyK, v.extract 0 40, d⟩, 37), (w.heap.size + 1 + 1, updC ⟨k, keyK, v.extract 0 40, d⟩, 39)] := List.mem_cons_of_mem _ List.mem_cons_self
    have u1 : ∀ p ∈ [(w.heap.size + 1, updC ⟨k, keyK, v.extract 0 40, d⟩, 37), (w.heap.size + 1 + 1, updC ⟨k, keyK, v.extract 0 40, d⟩, 39)], p.1 = w.heap.size + 1 → p = (w.heap.size + 1, updC ⟨k, keyK, v.extract 0 40, d⟩, 37) := by intro p hp e; simp at hp; rcases hp with rfl | rfl <;> simp at e ⊢
    have u2 : ∀ p ∈ [(w.heap.size + 1, updC ⟨k, keyK, v.extract 0 40, d⟩, 37), (w.heap.size + 1 + 1, updC ⟨k, keyK, v.extract 0 40, d⟩, 39)], p.1 = w.heap.size + 1 + 1 → p = (w.heap.size + 1 + 1, updC ⟨k, keyK, v.extract 0 40, d⟩, 39) := by intro p hp e; simp at hp; rcases hp with rfl | rfl <;> simp at e ⊢
    have hb : ∀ p ∈ [(w.heap.size + 1, updC ⟨k, keyK, v.extract 0 40, d⟩, 37), (w.heap.size + 1 + 1, updC ⟨k, keyK, v.extract 0 40, d⟩, 39)], w.heap.size ≤ p.1 := by intro p hp; simp at hp; rcases hp with rfl | rfl <;> simp <;> omega
    have hn : ∀ p ∈ ([(w.heap.size + 1, updC ⟨k, keyK, v.extract 0 40, d⟩, 37), (w.heap.size + 1 + 1, updC ⟨k, keyK, v.extract 0 40, d⟩, 39)] : List (Nat × Array Value × TypeId)), p.1 ≠ w.heap.size := by intro p hp; simp at hp; rcases hp with rfl | rfl <;> simp <;> omega
    refine RR.wp_region_drift_lit (n := 24) (Boxes.rel [(w.heap.size + 1, updC ⟨k, keyK, v.extract 0 40, d⟩, 37), (w.heap.size + 1 + 1, updC ⟨k, keyK, v.extract 0 40, d⟩, 39)]) (by kernel_rfl) (by kernel_rfl) (by rfl) ?_
    apply RR.chain_val
    · rfl
    · intro w2 hx  K hK
      simp only [Act.put, List.setIfInBounds_toArray, List.set_cons_zero, List.set_cons_succ] at hK ⊢
      go_simp
      exact hK _ _ (RR.Rel.refl (Boxes.rel [(w.heap.size + 1, updC ⟨k, keyK, v.extract 0 40, d⟩, 37), (w.heap.size + 1 + 1, updC ⟨k, keyK, v.extract 0 40, d⟩, 39)]) _) rfl
    apply RR.chain_val (.int .u8 (k : Int))
    · rfl
    · intro w2 hx  K hK
      simp only [Act.put, List.setIfInBounds_toArray, List.set_cons_zero, List.set_cons_succ] at hK ⊢
      have hc := Boxes.cell c0 hn hx
      go_simp
      exact hK _ _ ((Boxes.rel [(w.heap.size + 1, updC ⟨k, keyK, v.extract 0 40, d⟩, 37), (w.heap.size + 1 + 1, updC ⟨k, keyK, v.extract 0 40, d⟩, 39)]).refl _) rfl
    apply RR.chain_val
    · rfl
    · intro w2 hx  K hK
      simp only [Act.put, List.setIfInBounds_toArray, List.set_cons_zero, List.set_cons_succ] at hK ⊢
      go_simp
      exact hK _ _ (RR.Rel.refl (Boxes.rel [(w.heap.size + 1, updC ⟨k, keyK, v.extract 0 40, d⟩, 37), (w.heap.size + 1 + 1, updC ⟨k, keyK, v.extract 0 40, d⟩, 39)]) _) rfl
    apply RR.chain_val
    · rfl
    · intro w2 hx  K hK
      simp only [Act.put, List.setIfInBounds_toArray, List.set_cons_zero, List.set_cons_succ] at hK ⊢
      go_simp
      exact hK _ _ (RR.Rel.refl (Boxes.rel [(w.heap.size + 1, updC ⟨k, keyK, v.extract 0 40, d⟩, 37), (w.heap.size + 1 + 1, updC ⟨k, keyK, v.extract 0 40, d⟩, 39)]) _) rfl
    apply RR.chain_val (.int .u64 (d : Int))
    · rfl
    · intro w2 hx  K hK
      simp only [Act.put, List.setIfInBounds_toArray, List.set_cons_zero, List.set_cons_succ] at hK ⊢
      have hc := Boxes.cell c2 hn hx
      go_simp
      exact hK _ _ ((Boxes.rel [(w.heap.size + 1, updC ⟨k, keyK, v.extract 0 40, d⟩, 37), (w.heap.size + 1 + 1, updC ⟨k, keyK, v.extract 0 40, d⟩, 39)]).refl _) rfl
    apply RR.chain_val
    · rfl
    · intro w2 hx  K hK
      simp only [Act.put, List.setIfInBounds_toArray, List.set_cons_zero, List.set_cons_succ] at hK ⊢
      go_simp
      exact hK _ _ (RR.Rel.refl (Boxes.rel [(w.heap.size + 1, updC ⟨k, keyK, v.extract 0 40, d⟩, 37), (w.heap.size + 1 + 1, updC ⟨k, keyK, v.extract 0 40, d⟩, 39)]) _) rfl
    apply RR.chain_val
    · rfl
    · intro w2 hx  K hK
      simp only [Act.put, List.setIfInBounds_toArray, List.set_cons_zero, List.set_cons_succ] at hK ⊢
      go_simp
      exact hK _ _ (RR.Rel.refl (Boxes.rel [(w.heap.size + 1, updC ⟨k, keyK, v.extract 0 40, d⟩, 37), (w.heap.size + 1 + 1, updC ⟨k, keyK, v.extract 0 40, d⟩, 39)]) _) rfl
    apply RR.chain_val (.int .u8 (k : Int))
    · rfl
    · intro w2 hx  K hK
      simp only [Act.put, List.setIfInBounds_toArray, List.set_cons_zero, List.set_cons_succ] at hK ⊢
      have hc := Boxes.cell c0 hn hx
      go_simp
      exact hK _ _ ((Boxes.rel [(w.heap.size + 1, updC ⟨k, keyK, v.extract 0 40, d⟩, 37), (w.heap.size + 1 + 1, updC ⟨k, keyK, v.extract 0 40, d⟩, 39)]).refl _) rfl
    apply RR.chain_val
    · rfl
    · intro w2 hx  K hK
      simp only [Act.put, List.setIfInBounds_toArray, List.set_cons_zero, List.set_cons_succ] at hK ⊢
      go_simp
      exact hK _ _ (RR.Rel.refl (Boxes.rel [(w.heap.size + 1, updC ⟨k, keyK, v.extract 0 40, d⟩, 37), (w.heap.size + 1 + 1, updC ⟨k, keyK, v.extract 0 40, d⟩, 39)]) _) rfl
    apply RR.chain_val
    · rfl
    · intro w2 hx  K hK
      simp only [Act.put, List.setIfInBounds_toArray, List.set_cons_zero, List.set_cons_succ] at hK ⊢
      go_simp
      exact hK _ _ (RR.Rel.refl (Boxes.rel [(w.heap.size + 1, updC ⟨k, keyK, v.extract 0 40, d⟩, 37), (w.heap.size + 1 + 1, updC ⟨k, keyK, v.extract 0 40, d⟩, 39)]) _) rfl
    apply RR.chain_val (.int .u64 (d : Int))
    · rfl
    · intro w2 hx  K hK
      simp only [Act.put, List.setIfInBounds_toArray, List.set_cons_zero, List.set_cons_succ] at hK ⊢
      have hc := Boxes.cell c2 hn hx
      go_simp
      exact hK _ _ ((Boxes.rel [(w.heap.size + 1, updC ⟨k, keyK, v.extract 0 40, d⟩, 37), (w.heap.size + 1 + 1, updC ⟨k, keyK, v.extract 0 40, d⟩, 39)]).refl _) rfl
    apply RR.chain_val
    · rfl
    · intro w2 hx  K hK
      simp only [Act.put, List.setIfInBounds_toArray, List.set_cons_zero, List.set_cons_succ] at hK ⊢
      go_simp
      exact hK _ _ (RR.Rel.refl (Boxes.rel [(w.heap.size + 1, updC ⟨k, keyK, v.extract 0 40, d⟩, 37), (w.heap.size + 1 + 1, updC ⟨k, keyK, v.extract 0 40, d⟩, 39)]) _) rfl
    refine RR.chain_store (PtrRow (w.heap.size + 1) 37 (updC ⟨k, keyK, v.extract 0 40, d⟩)) (fun _ _ _ e h => PtrRow.kept m1 h e) rfl rfl ?_ ?_
    · intro w2 hx  K hK
      simp only [Act.put, List.setIfInBounds_toArray, List.set_cons_zero, List.set_cons_succ] at hK ⊢
      obtain ⟨c, hr, hc⟩ := RowIs.either m1 r1 hx
      have hs : c.size = 4 := by rcases hc with rfl | rfl <;> rfl
      exact step_store rfl rfl rfl rfl hr (by kernel_rfl) hs (by simp [Value.oneCell']) (let ⟨e, q⟩ := setRow_boxes hr m1 u1; hK _ e ⟨rfl, q⟩)
    refine RR.chain_store (PtrRow (w.heap.size + 1 + 1) 39 (updC ⟨k, keyK, v.extract 0 40, d⟩)) (fun _ _ _ e h => PtrRow.kept m2 h e) rfl rfl ?_ ?_
    · intro w2 hx _ _ v12 h12 K hK
      simp only [Act.put, List.setIfInBounds_toArray, List.set_cons_zero, List.set_cons_succ] at hK ⊢
      obtain ⟨c, hr, hc⟩ := RowIs.either m2 r2 hx
      have hs : c.size = 4 := by rcases hc with rfl | rfl <;> rfl
      exact step_store rfl rfl rfl rfl hr (by kernel_rfl) hs (by simp [Value.oneCell']) (let ⟨e, q⟩ := setRow_boxes hr m2 u2; hK _ e ⟨rfl, q⟩)
    refine RR.chain_end fun w2 hx => ?_
    simp only [List.reverse_cons, List.reverse_nil, List.nil_append, List.cons_append, RR.withDeps, Act.put, List.setIfInBounds_toArray, List.set_cons_zero, List.set_cons_succ]
    intro v12 h12 v13 h13
    obtain ⟨rfl, h12⟩ := h12
    obtain ⟨rfl, h13⟩ := h13
    go_wp2_with fail
    (try simp only [Exit.inBlock, Exit.then])
    refine bodyPost_ret (results_rows2 Try.results18 _ _ rfl h12 rfl h13 Try.underlying37 rfl (by kernel_rfl) Try.underlying39 rfl (by kernel_rfl)) rfl ?_
    exact ⟨_, h1, h2, rfl, Boxes.ext he hx hb⟩
  · have h1 := (show v.size ≤ 40 by omega)
    have h2 := Nat.le_refl v.size
    have m1 : (w.heap.size + 1, updC ⟨k, keyK, v, d⟩, 37) ∈ [(w.heap.size + 1, updC ⟨k, keyK, v, d⟩, 37), (w.heap.size + 1 + 1, updC ⟨k, keyK, v, d⟩, 39)] := List.mem_cons_self
    have m2 : (w.heap.size + 1 + 1, updC ⟨k, keyK, v, d⟩, 39) ∈ [(w.heap.size + 1, updC ⟨k, keyK, v, d⟩, 37), (w.heap.size + 1 + 1, updC ⟨k, keyK, v, d⟩, 39)] := List.mem_cons_of_mem _ List.mem_cons_self
    have u1 : ∀ p ∈ [(w.heap.size + 1, updC ⟨k, keyK, v, d⟩, 37), (w.heap.size + 1 + 1, updC ⟨k, keyK, v, d⟩, 39)], p.1 = w.heap.size + 1 → p = (w.heap.size + 1, updC ⟨k, keyK, v, d⟩, 37) := by intro p hp e; simp at hp; rcases hp with rfl | rfl <;> simp at e ⊢
    have u2 : ∀ p ∈ [(w.heap.size + 1, updC ⟨k, keyK, v, d⟩, 37), (w.heap.size + 1 + 1, updC ⟨k, keyK, v, d⟩, 39)], p.1 = w.heap.size + 1 + 1 → p = (w.heap.size + 1 + 1, updC ⟨k, keyK, v, d⟩, 39) := by intro p hp e; simp at hp; rcases hp with rfl | rfl <;> simp at e ⊢
    have hb : ∀ p ∈ [(w.heap.size + 1, updC ⟨k, keyK, v, d⟩, 37), (w.heap.size + 1 + 1, updC ⟨k, keyK, v, d⟩, 39)], w.heap.size ≤ p.1 := by intro p hp; simp at hp; rcases hp with rfl | rfl <;> simp <;> omega
    have hn : ∀ p ∈ ([(w.heap.size + 1, updC ⟨k, keyK, v, d⟩, 37), (w.heap.size + 1 + 1, updC ⟨k, keyK, v, d⟩, 39)] : List (Nat × Array Value × TypeId)), p.1 ≠ w.heap.size := by intro p hp; simp at hp; rcases hp with rfl | rfl <;> simp <;> omega
    refine RR.wp_region_drift_lit (n := 24) (Boxes.rel [(w.heap.size + 1, updC ⟨k, keyK, v, d⟩, 37), (w.heap.size + 1 + 1, updC ⟨k, keyK, v, d⟩, 39)]) (by kernel_rfl) (by kernel_rfl) (by rfl) ?_
    apply RR.chain_val
    · rfl
    · intro w2 hx  K hK
      simp only [Act.put, List.setIfInBounds_toArray, List.set_cons_zero, List.set_cons_succ] at hK ⊢
      go_simp
      exact hK _ _ (RR.Rel.refl (Boxes.rel [(w.heap.size + 1, updC ⟨k, keyK, v, d⟩, 37), (w.heap.size + 1 + 1, updC ⟨k, keyK, v, d⟩, 39)]) _) rfl
    apply RR.chain_val (.int .u8 (k : Int))
    · rfl
    · intro w2 hx  K hK
      simp only [Act.put, List.setIfInBounds_toArray, List.set_cons_zero, List.set_cons_succ] at hK ⊢
      have hc := Boxes.cell c0 hn hx
      go_simp
      exact hK _ _ ((Boxes.rel [(w.heap.size + 1, updC ⟨k, keyK, v, d⟩, 37), (w.heap.size + 1 + 1, updC ⟨k, keyK, v, d⟩, 39)]).refl _) rfl
    apply RR.chain_val
    · rfl
    · intro w2 hx  K hK
      simp only [Act.put, List.setIfInBounds_toArray, List.set_cons_zero, List.set_cons_succ] at hK ⊢
      go_simp
      exact hK _ _ (RR.Rel.refl (Boxes.rel [(w.heap.size + 1, updC ⟨k, keyK, v, d⟩, 37), (w.heap.size + 1 + 1, updC ⟨k, keyK, v, d⟩, 39)]) _) rfl
    apply RR.chain_val
    · rfl
    · intro w2 hx  K hK
      simp only [Act.put, List.setIfInBounds_toArray, List.set_cons_zero, List.set_cons_succ] at hK ⊢
      go_simp
      exact hK _ _ (RR.Rel.refl (Boxes.rel [(w.heap.size + 1, updC ⟨k, keyK, v, d⟩, 37), (w.heap.size + 1 + 1, updC ⟨k, keyK, v, d⟩, 39)]) _) rfl
    apply RR.chain_val (.int .u64 (d : Int))
    · rfl
    · intro w2 hx  K hK
      simp only [Act.put, List.setIfInBounds_toArray, List.set_cons_zero, List.set_cons_succ] at hK ⊢
      have hc := Boxes.cell c2 hn hx
      go_simp
      exact hK _ _ ((Boxes.rel [(w.heap.size + 1, updC ⟨k, keyK, v, d⟩, 37), (w.heap.size + 1 + 1, updC ⟨k, keyK, v, d⟩, 39)]).refl _) rfl
    apply RR.chain_val
    · rfl
    · intro w2 hx  K hK
      simp only [Act.put, List.setIfInBounds_toArray, List.set_cons_zero, List.set_cons_succ] at hK ⊢
      go_simp
      exact hK _ _ (RR.Rel.refl (Boxes.rel [(w.heap.size + 1, updC ⟨k, keyK, v, d⟩, 37), (w.heap.size + 1 + 1, updC ⟨k, keyK, v, d⟩, 39)]) _) rfl
    apply RR.chain_val
    · rfl
    · intro w2 hx  K hK
      simp only [Act.put, List.setIfInBounds_toArray, List.set_cons_zero, List.set_cons_succ] at hK ⊢
      go_simp
      exact hK _ _ (RR.Rel.refl (Boxes.rel [(w.heap.size + 1, updC ⟨k, keyK, v, d⟩, 37), (w.heap.size + 1 + 1, updC ⟨k, keyK, v, d⟩, 39)]) _) rfl
    apply RR.chain_val (.int .u8 (k : Int))
    · rfl
    · intro w2 hx  K hK
      simp only [Act.put, List.setIfInBounds_toArray, List.set_cons_zero, List.set_cons_succ] at hK ⊢
      have hc := Boxes.cell c0 hn hx
      go_simp
      exact hK _ _ ((Boxes.rel [(w.heap.size + 1, updC ⟨k, keyK, v, d⟩, 37), (w.heap.size + 1 + 1, updC ⟨k, keyK, v, d⟩, 39)]).refl _) rfl
    apply RR.chain_val
    · rfl
    · intro w2 hx  K hK
      simp only [Act.put, List.setIfInBounds_toArray, List.set_cons_zero, List.set_cons_succ] at hK ⊢
      go_simp
      exact hK _ _ (RR.Rel.refl (Boxes.rel [(w.heap.size + 1, updC ⟨k, keyK, v, d⟩, 37), (w.heap.size + 1 + 1, updC ⟨k, keyK, v, d⟩, 39)]) _) rfl
    apply RR.chain_val
    · rfl
    · intro w2 hx  K hK
      simp only [Act.put, List.setIfInBounds_toArray, List.set_cons_zero, List.set_cons_succ] at hK ⊢
      go_simp
      exact hK _ _ (RR.Rel.refl (Boxes.rel [(w.heap.size + 1, updC ⟨k, keyK, v, d⟩, 37), (w.heap.size + 1 + 1, updC ⟨k, keyK, v, d⟩, 39)]) _) rfl
    apply RR.chain_val (.int .u64 (d : Int))
    · rfl
    · intro w2 hx  K hK
      simp only [Act.put, List.setIfInBounds_toArray, List.set_cons_zero, List.set_cons_succ] at hK ⊢
      have hc := Boxes.cell c2 hn hx
      go_simp
      exact hK _ _ ((Boxes.rel [(w.heap.size + 1, updC ⟨k, keyK, v, d⟩, 37), (w.heap.size + 1 + 1, updC ⟨k, keyK, v, d⟩, 39)]).refl _) rfl
    apply RR.chain_val
    · rfl
    · intro w2 hx  K hK
      simp only [Act.put, List.setIfInBounds_toArray, List.set_cons_zero, List.set_cons_succ] at hK ⊢
      go_simp
      exact hK _ _ (RR.Rel.refl (Boxes.rel [(w.heap.size + 1, updC ⟨k, keyK, v, d⟩, 37), (w.heap.size + 1 + 1, updC ⟨k, keyK, v, d⟩, 39)]) _) rfl
    refine RR.chain_store (PtrRow (w.heap.size + 1) 37 (updC ⟨k, keyK, v, d⟩)) (fun _ _ _ e h => PtrRow.kept m1 h e) rfl rfl ?_ ?_
    · intro w2 hx  K hK
      simp only [Act.put, List.setIfInBounds_toArray, List.set_cons_zero, List.set_cons_succ] at hK ⊢
      obtain ⟨c, hr, hc⟩ := RowIs.either m1 r1 hx
      have hs : c.size = 4 := by rcases hc with rfl | rfl <;> rfl
      exact step_store rfl rfl rfl rfl hr (by kernel_rfl) hs (by simp [Value.oneCell']) (let ⟨e, q⟩ := setRow_boxes hr m1 u1; hK _ e ⟨rfl, q⟩)
    refine RR.chain_store (PtrRow (w.heap.size + 1 + 1) 39 (updC ⟨k, keyK, v, d⟩)) (fun _ _ _ e h => PtrRow.kept m2 h e) rfl rfl ?_ ?_
    · intro w2 hx _ _ v12 h12 K hK
      simp only [Act.put, List.setIfInBounds_toArray, List.set_cons_zero, List.set_cons_succ] at hK ⊢
      obtain ⟨c, hr, hc⟩ := RowIs.either m2 r2 hx
      have hs : c.size = 4 := by rcases hc with rfl | rfl <;> rfl
      exact step_store rfl rfl rfl rfl hr (by kernel_rfl) hs (by simp [Value.oneCell']) (let ⟨e, q⟩ := setRow_boxes hr m2 u2; hK _ e ⟨rfl, q⟩)
    refine RR.chain_end fun w2 hx => ?_
    simp only [List.reverse_cons, List.reverse_nil, List.nil_append, List.cons_append, RR.withDeps, Act.put, List.setIfInBounds_toArray, List.set_cons_zero, List.set_cons_succ]
    intro v12 h12 v13 h13
    obtain ⟨rfl, h12⟩ := h12
    obtain ⟨rfl, h13⟩ := h13
    go_wp2_with fail
    (try simp only [Exit.inBlock, Exit.then])
    refine bodyPost_ret (results_rows2 Try.results18 _ _ rfl h12 rfl h13 Try.underlying37 rfl (by kernel_rfl) Try.underlying39 rfl (by kernel_rfl)) rfl ?_
    exact ⟨_, h1, h2, rfl, Boxes.ext he hx hb⟩
end Go.Proofs.Ytemhflafiephpaa
