/- Contract of rec.Parse. -/
import Derived.Test.YtemhflafiephpaaRecG
import Derived.Deep.DeepCutAuto
namespace Go.Proofs.Ytemhflafiephpaa
open Go.RowKit
def txtLen : Value → Nat
  | .string s => s.size
  | _ => 0
/-- how Parse answers -/
def ParsePost (T : TypeId) (B : Nat) (o : Option (List Msg.Up)) (e : Ending) (w' : World) : Prop := match o with
  | some l => ∃ v, e = .returned (.tuple #[v, .int .i64 0]) ∧ OwnE T w' B v l ∧ ∀ u ∈ l, Rec.check u = 0 ∧ FitU u
  | none => e = .returned (.tuple #[.slice none 0 0, .int .i64 4])
theorem fit_first {s r : ByteArray} {u : Msg.Up} (hs : s.size ≤ 1000000) (h : Rec.first s = some (u, r)) : FitU u := by
  obtain ⟨_, _, h1, h2, h3, h4⟩ := Rec.first_size h
  exact ⟨h1, by unfold maxLen; omega, by unfold maxLen; omega, h4⟩
theorem map_snoc (acc : List Msg.Up) (u : Msg.Up) (o : Option (List Msg.Up)) : (o.map (u :: ·)).map (acc ++ ·) = o.map ((acc ++ [u]) ++ ·) := by
  cases o <;> simp
set_option maxRecDepth 100000 in
set_option maxHeartbeats 4000000 in
theorem rparse_any (s : ByteArray) (w : World) (hs : s.size ≤ 100000) : Calls Try.prog 33 #[.string s] w fun e w' => ParsePost 37 w.heap.size (Rec.parseAll s) e w' ∧ Ext w w' := by
  obtain ⟨O, hO⟩ : ∃ O, Rec.parseAll s = O := ⟨_, rfl⟩
  rw [hO]
  have HO := Lib.hid hO
  clear hO
  go_enter Try.func33, Try.ntmps33
  go_wp2_with fail
  go_loopw [0, 4] (fun t v wx => ∃ (S : ByteArray) (acc : List Msg.Up), t = .string S ∧ acc.length + S.size ≤ s.size ∧ OwnU wx w.heap.size v acc ∧ (∀ u ∈ acc, Rec.check u = 0 ∧ FitU u) ∧ O = (Rec.parseAll S).map (acc ++ ·) ∧ Ext w wx) (fun t _ _ => txtLen t)
  case atStart => exact ⟨s, [], rfl, by simp, OwnE.nil _ _ _, fun u hu => by simp at hu, by rw [HO.out]; cases O <;> rfl, Ext.refl _⟩
  case round =>
    obtain ⟨S, acc, rfl, hln, hown, hfit, hmap, hex⟩ := hrel
    have HOWN := Lib.hid hown; have HFIT := Lib.hid hfit; have HMAP := Lib.hid hmap
    clear hown hfit hmap
    by_cases h0 : S.size = 0
    · obtain ⟨n1, n2⟩ := isEmpty_of_zero h0
      have hans : O = some acc := by rw [HMAP.out, Rec.parse_empty h0]; simp
      have HANS := Lib.hid hans
      clear hans
      go_wp2_with fail
      go_ret2
      refine ⟨?_, hex⟩
      rw [HANS.out]
      exact ⟨_, rfl, HOWN.out, HFIT.out⟩
    · obtain ⟨n1, n2⟩ := isEmpty_of_pos (s := S) (by omega)
      have hfa := fun w => first_any S w (by omega)
      cases hf : Rec.first S with
      | none =>
        have hans : O = none := by rw [HMAP.out, Rec.parse_none h0 hf]; rfl
        have HANS := Lib.hid hans
        rw [hf] at hfa
        have HFA := Lib.hid hfa
        clear hans hf hfa
        go_wp2_with fail
        refine (HFA.out _).mono ?_
        rintro e w1 ⟨⟨k, d, y, v, r, rfl⟩, he1⟩
        go_wp2_with fail
        go_ret2
        refine ⟨?_, hex.trans (he1.trans (Ext.alloc _ _))⟩
        rw [HANS.out]
        exact rfl
      | some p =>
        obtain ⟨u, r⟩ := p
        have hans : O = (Rec.parseAll r).map ((acc ++ [u]) ++ ·) := by rw [HMAP.out, Rec.parse_some h0 hf, map_snoc]
        have HANS := Lib.hid hans
        obtain ⟨hck, hrl, _⟩ := Rec.first_size hf
        have hfu := fit_first (by omega) hf
        have HFU := Lib.hid (And.intro hck hfu)
        rw [hf] at hfa
        have HFA := Lib.hid hfa
        clear hans hf hfa hck hfu
        obtain ⟨K, Y, V, D⟩ := u
        have hB2 : w.heap.size ≤ wr.heap.size := hex.size
        have hal : acc.length ≤ 1000000 := by omega
        go_wp2_with fail
        refine (HFA.out _).mono ?_
        rintro e w1 ⟨rfl, he1⟩
        simp only
        go_upto_region 6 with (fail)
        have e0 := World.cell?_alloc_new w1 #[.int .u8 (K : Int), .string Y, .string V, .int .u64 (D : Int)] 37 0
        have e1 := World.cell?_alloc_new w1 #[.int .u8 (K : Int), .string Y, .string V, .int .u64 (D : Int)] 37 1
        have e2 := World.cell?_alloc_new w1 #[.int .u8 (K : Int), .string Y, .string V, .int .u64 (D : Int)] 37 2
        have e3 := World.cell?_alloc_new w1 #[.int .u8 (K : Int), .string Y, .string V, .int .u64 (D : Int)] 37 3
        have hEa := Ext.alloc w1 (.cells #[.int .u8 (K : Int), .string Y, .string V, .int .u64 (D : Int)] 37)
        have HO1 := Lib.hid (OwnU.ext (OwnU.ext HOWN.out he1) hEa)
        have hea := he1.trans hEa
        generalize w1.alloc (.cells #[.int .u8 (K : Int), .string Y, .string V, .int .u64 (D : Int)] 37) = w2 at *
        have hB3 : w.heap.size ≤ w2.heap.size := by have := hea.size; omega
        go_wp2_with (at_builtin; refine wpl_upd rfl _ _ rfl rfl HO1.out hB3 hal rfl K D Y V ?_; intro v' w' ho hb; have HO2 := Lib.hid ho; have HBL := Lib.hid hb; clear ho hb)
        go_roundw
        case rel =>
          refine ⟨r, acc ++ [⟨K, Y, V, D⟩], rfl, by simp; omega, HO2.out, fun u hu => ?_, HANS.out, Below.trans (hex.trans hea) HBL.out⟩
          rcases List.mem_append.1 hu with hu | hu
          · exact HFIT.out u hu
          · obtain rfl := List.mem_singleton.1 hu
            exact HFU.out
        case measure => exact hrl
end Go.Proofs.Ytemhflafiephpaa
