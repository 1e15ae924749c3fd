/- Contracts of rec.Open and ref12.Open. -/
import Derived.Test.YtemhflafiephpaaRecM
import Derived.Test.YtemhflafiephpaaLendRR
import Derived.Deep.DeepCutAuto
namespace Go.Proofs.Ytemhflafiephpaa
open Go.RowKit
namespace Rec
structure Rd where
  q : Nat
  c : Nat
  n : Nat
/-- a record's head -/
def rd (l : List UInt8) : Rd := ⟨Crc.le (l.take 8), Crc.le ((l.drop 8).take 4), Crc.le ((l.drop 12).take 2)⟩
theorem le_lt_take (l : List UInt8) (n : Nat) : Crc.le (l.take n) < 256 ^ n :=
  Nat.lt_of_lt_of_le (Lend.le_lt _) (Nat.pow_le_pow_right (by decide) (by rw [List.length_take]; omega))
theorem rd_lt (l : List UInt8) : (rd l).q < 18446744073709551616 ∧ (rd l).c < 4294967296 ∧ (rd l).n < 65536 := ⟨le_lt_take l 8, le_lt_take _ 4, le_lt_take _ 2⟩
/-- the record of bytes -/
def opens (s : ByteArray) : Option (Nat × Nat × List Msg.Up) :=
  if 14 ≤ s.size then match parseAll (s.extract 14 s.size) with
    | some l => if l.length = (rd s.data.toList).n then some ((rd s.data.toList).q, (rd s.data.toList).c, l) else none
    | none => none
  else none
end Rec
theorem cutR (l : List UInt8) : Lend.cut wsR l = [(Rec.rd l).q, (Rec.rd l).c, (Rec.rd l).n] := by
  simp [Lend.cut, wsR, Rec.rd, List.drop_drop]
theorem numsR (l : List UInt8) : Lend.nums wsR l = if 14 ≤ l.length then some ([(Rec.rd l).q, (Rec.rd l).c, (Rec.rd l).n], l.drop 14) else none := by
  rw [Lend.nums_eq, cutR]
  have e : Lend.total wsR = 14 := rfl
  have e2 : wsR.all Lend.okW = true := by decide
  rw [e, e2]
  by_cases h : 14 ≤ l.length <;> simp [h]
theorem readR_no (s : ByteArray) (v : Value) (w : World) (hs : ¬ 14 ≤ s.size) (hv : SlI .i64 3 wsR v w) : Calls Try.prog 42 #[v, .string s] w fun e w' => e = .returned (.tuple #[.slice none 0 0, .string ⟨#[]⟩, .bool false]) ∧ Ext w w' := by
  obtain ⟨a, c, rfl, hI⟩ := hv
  exact (read_any wsR s a c w (by decide) (by unfold maxLen; omega) hI).mono fun e w' hp => readPost_none (by rw [numsR, if_neg (by simpa using hs)]) hp
theorem refreadR_no (s : ByteArray) (v : Value) (w : World) (hs : ¬ 14 ≤ s.size) (hv : SlI .i64 3 wsR v w) : Calls Try.prog 52 #[v, .string s] w fun e w' => e = .returned (.tuple #[.slice none 0 0, .string ⟨#[]⟩, .bool false]) ∧ Ext w w' := by
  obtain ⟨a, c, rfl, hI⟩ := hv
  exact (refread_any wsR s a c w (by decide) (by unfold maxLen; omega) hI).mono fun e w' hp => readPost_none (by rw [numsR, if_neg (by simpa using hs)]) hp
/-- how Read answers, of a record's head -/
def HeadPost (s : ByteArray) (e : Ending) (w w' : World) : Prop := ∃ b o d, e = .returned (.tuple #[.slice (some ⟨b, o, none⟩) 3 d, .string (s.extract 14 s.size), .bool true]) ∧
  (w'.cell? ⟨b, o, none⟩ = some (.int .u64 ((Rec.rd s.data.toList).q : Int)) ∧ w'.cell? ⟨b, o + 1, none⟩ = some (.int .u64 ((Rec.rd s.data.toList).c : Int)) ∧ w'.cell? ⟨b, o + 2, none⟩ = some (.int .u64 ((Rec.rd s.data.toList).n : Int))) ∧ Ext w w'
theorem headPost {s : ByteArray} {w w' : World} {e : Ending} (hs : 14 ≤ s.size) (hp : ReadPost wsR s w e w') : HeadPost s e w w' := by
  obtain ⟨x, d, rfl, h1, h2⟩ := readPost_some (by rw [numsR, if_pos (by simpa using hs)]) hp
  obtain ⟨b, o, rfl, c0⟩ := h1.at 0 (by simp)
  obtain ⟨b', o', e', c1⟩ := h1.at 1 (by simp)
  cases e'
  obtain ⟨b', o', e', c2⟩ := h1.at 2 (by simp)
  cases e'
  have e : s.extract 14 s.size = ⟨(s.data.toList.drop 14).toArray⟩ := bytes_ext (by rw [ext_data, List.take_of_length_le (by simp)])
  exact ⟨b, o, d, by rw [e]; rfl, ⟨c0, c1, c2⟩, h2⟩
theorem readR_yes (s : ByteArray) (v : Value) (w : World) (hs : 14 ≤ s.size) (hm : s.size ≤ maxLen) (hv : SlI .i64 3 wsR v w) : Calls Try.prog 42 #[v, .string s] w fun e w' => HeadPost s e w w' := by
  obtain ⟨a, c, rfl, hI⟩ := hv
  exact (read_any wsR s a c w (by decide) hm hI).mono fun e w' hp => headPost hs hp
theorem refreadR_yes (s : ByteArray) (v : Value) (w : World) (hs : 14 ≤ s.size) (hm : s.size ≤ maxLen) (hv : SlI .i64 3 wsR v w) : Calls Try.prog 52 #[v, .string s] w fun e w' => HeadPost s e w w' := by
  obtain ⟨a, c, rfl, hI⟩ := hv
  exact (refread_any wsR s a c w (by decide) hm hI).mono fun e w' hp => headPost hs hp
/-- how Open answers -/
def OpenPost (o : Option (Nat × Nat × List Msg.Up)) (e : Ending) (w' : World) : Prop := match o with
  | some (q, c, l) => ∃ a ca, e = .returned (.tuple #[.agg #[.int .u64 (q : Int), .int .u32 (c : Int), .slice a l.length ca], .int .i64 0]) ∧ Recs w' a l
  | none => e = .returned (.tuple #[.agg #[.int .u64 0, .int .u32 0, .slice none 0 0], .int .i64 4])
/-- how Parse answers, less said -/
def ParseAt (o : Option (List Msg.Up)) (e : Ending) (w' : World) : Prop := match o with
  | some l => ∃ a ca, e = .returned (.tuple #[.slice a l.length ca, .int .i64 0]) ∧ Recs w' a l ∧ (l.length ≤ ca ∧ ca ≤ maxLen)
  | none => e = .returned (.tuple #[.slice none 0 0, .int .i64 4])
theorem parseAt {T : TypeId} {B : Nat} {o : Option (List Msg.Up)} {e : Ending} {w' : World} (h : ParsePost T B o e w') : ParseAt o e w' := by
  cases o with
  | none => exact h
  | some l =>
    obtain ⟨v, rfl, ho, _⟩ := h
    obtain ⟨a, ca, rfl, hc, _, hR⟩ := own_recs ho
    exact ⟨a, ca, rfl, hR, hc⟩
theorem parse_length : ∀ (n : Nat) (s : ByteArray) (l : List Msg.Up), Rec.parse n s = some l → l.length ≤ s.size
  | 0, s, l, h => by
    unfold Rec.parse at h
    split at h
    · cases h; exact Nat.zero_le _
    · cases h
  | n + 1, s, l, h => by
    unfold Rec.parse at h
    split at h
    · cases h; exact Nat.zero_le _
    · split at h
      · cases h
      · rename_i u r hf
        obtain ⟨m, hm, rfl⟩ := Option.map_eq_some_iff.1 h
        have := parse_length n r m hm
        have := (Rec.first_size hf).2.1
        simp only [List.length_cons]
        omega
theorem box_ne {w : World} {B b o : Nat} {T : TypeId} {x : Int} (hr : RowIs B T #[.int .u64 0, .int .u32 0, .slice none 0 0] w) (h : w.cell? ⟨b, o + 1, none⟩ = some (.int .u64 x)) : B ≠ b := by
  intro hh
  subst hh
  rw [cell_of_row w B (o + 1) _ T (0, 0) hr] at h
  match o with
  | 0 => simp at h
  | 1 => simp at h
  | o + 2 =>
    rw [Array.getElem?_eq_none (by show 3 ≤ o + 2 + 1; omega)] at h
    cases h
theorem results_ctR {P : Program} {fn : Func} {p q : Tmp} {t : TypeId} (h : fn.results = #[.cell p t, .tmp q]) (tmps : Array Value) (w : World) {g : Nat} {c : Array Value} {T : TypeId} {d : TypeDesc}
    (hp : tmps.getD p undef = .pointer (some ⟨g, 0, none⟩)) (hg : RowIs g T c w)
    (hu : P.underlying t = some d) (hd : (match d with | .struct _ | .array _ _ => true | _ => false) = true) (hi : (P.info? t).map (·.size) = some c.size) :
    (results fn tmps).run P w = .ok (.tuple #[.agg c, tmps.getD q undef]) w := by
  have hp' : tmps[p]?.getD undef = .pointer (some ⟨g, 0, none⟩) := by simpa using hp
  simp [results, h, hp', asAddr, run_loadVar_row w g T t c (0, 0) d hg hu hd hi]
theorem recs_boxes {w w' : World} {a : Option Addr} {l : List Msg.Up} {B : Nat} {T : TypeId} {cs : Array Value} (h : Recs w a l) (hr : RowIs B T #[.int .u64 0, .int .u32 0, .slice none 0 0] w) (e : Boxes [(B, cs, T)] w w') : Recs w' a l := fun i hi => by
  obtain ⟨b, o, h1, c0, c1, c2, c3⟩ := h i hi
  have hne : ∀ p ∈ [(B, cs, T)], p.1 ≠ b := by
    intro p hp
    simp at hp
    rw [hp]
    intro hh
    subst hh
    rw [cell_of_row w B _ _ T (0, 0) hr] at c1
    generalize o + i * 4 = x at *
    match x with
    | 0 => simp at c1
    | 1 => simp at c1
    | x + 2 =>
      rw [Array.getElem?_eq_none (by show 3 ≤ x + 2 + 1; omega)] at c1
      cases c1
  exact ⟨b, o, h1, Boxes.cell c0 hne e, Boxes.cell c1 hne e, Boxes.cell c2 hne e, Boxes.cell c3 hne e⟩
set_option maxRecDepth 100000 in
set_option maxHeartbeats 4000000 in
theorem ropen_no (s : ByteArray) (w : World) (h14 : ¬ 14 ≤ s.size) : Calls Try.prog 36 #[.string s] w fun e w' => OpenPost none e w' ∧ Ext w w' := by
  have HRD := Lib.hid (fun v w hv => readR_no s v w h14 hv)
  go_enter Try.func36, Try.ntmps36
  go_wp2_with fail
  refine (own_widthsR _).mono ?_
  rintro e w1 ⟨⟨v, rfl, hv⟩, he1⟩
  have r2 := (RowIs.new w 84 #[.int .u64 0, .int .u32 0, .slice none 0 0]).ext he1
  have hE1 := (Ext.alloc w (.cells #[.int .u64 0, .int .u32 0, .slice none 0 0] 84)).trans he1
  go_wp2_with fail
  refine (HRD.out v _ hv).mono ?_
  rintro e w2 ⟨rfl, he2⟩
  replace r2 := r2.ext he2
  replace hE1 := hE1.trans he2
  have R2 := Lib.hid r2
  clear r2
  go_wp2_with (refine wpl_row rfl rfl rfl rfl R2.out (by kernel_rfl) rfl (by simp [Value.oneCell']) ?_; intro w6 hw6 hr6; have HW6 := Lib.hid hw6; have HR6 := Lib.hid hr6; clear hw6 hr6)
  (try simp only [Exit.inBlock, Exit.then])
  refine bodyPost_ret (results_ctR Try.results36 _ _ rfl HR6.out Try.underlying84 rfl (by kernel_rfl)) rfl ?_
  exact ⟨rfl, HW6.out.ext hE1 (Nat.le_refl _)⟩
set_option maxRecDepth 100000 in
set_option maxHeartbeats 4000000 in
theorem ropen_any (s : ByteArray) (w : World) (hs : s.size ≤ 100000) : Calls Try.prog 36 #[.string s] w fun e w' => OpenPost (Rec.opens s) e w' ∧ Ext w w' := by
  unfold Rec.opens
  by_cases h14 : 14 ≤ s.size
  · rw [if_pos h14]
    have hrd := fun v w hv => readR_yes s v w h14 (by unfold maxLen; omega) hv
    have hlt := Rec.rd_lt s.data.toList
    unfold HeadPost at hrd
    generalize Rec.rd s.data.toList = R at *
    obtain ⟨q, c, n⟩ := R
    obtain ⟨q1, q2, q3⟩ := hlt
    simp only at q1 q2 q3 hrd ⊢
    have hsz : (s.extract 14 s.size).size = s.size - 14 := by simp
    generalize s.extract 14 s.size = T at *
    have hpa := fun w => (rparse_any T w (by omega)).mono (R' := fun e w' => ParseAt (Rec.parseAll T) e w' ∧ Ext w w') fun e w' h => ⟨parseAt h.1, h.2⟩
    have hpl := fun l => parse_length T.size T l
    have HRD := Lib.hid hrd
    clear hrd
    have wc : IntKind.u32.wrap (c : Int) = (c : Int) := by rw [IntKind.wrap_u32]; omega
    have HWC := Lib.hid wc
    clear wc
    cases ho : Rec.parseAll T with
    | none =>
      rw [ho] at hpa
      have HPA := Lib.hid hpa
      clear hpa ho hpl
      go_enter Try.func36, Try.ntmps36
      go_wp2_with fail
      refine (own_widthsR _).mono ?_
      rintro e w1 ⟨⟨v, rfl, hv⟩, he1⟩
      have r2 := (RowIs.new w 84 #[.int .u64 0, .int .u32 0, .slice none 0 0]).ext he1
      have hE1 := (Ext.alloc w (.cells #[.int .u64 0, .int .u32 0, .slice none 0 0] 84)).trans he1
      go_wp2_with fail
      refine (HRD.out v _ hv).mono ?_
      rintro e w2 ⟨b, o, d, rfl, ⟨c0, c1, c2⟩, he2⟩
      replace r2 := r2.ext he2
      replace hE1 := hE1.trans he2
      go_wp2_with fail
      refine (HPA.out _).mono ?_
      rintro e w3 ⟨rfl, he3⟩
      replace r2 := r2.ext he3
      replace hE1 := hE1.trans he3
      have R2 := Lib.hid r2
      clear r2
      go_wp2_with (refine wpl_row rfl rfl rfl rfl R2.out (by kernel_rfl) rfl (by simp [Value.oneCell']) ?_; intro w6 hw6 hr6; have HW6 := Lib.hid hw6; have HR6 := Lib.hid hr6; clear hw6 hr6)
      (try simp only [Exit.inBlock, Exit.then])
      refine bodyPost_ret (results_ctR Try.results36 _ _ rfl HR6.out Try.underlying84 rfl (by kernel_rfl)) rfl ?_
      exact ⟨rfl, HW6.out.ext hE1 (Nat.le_refl _)⟩
    | some l =>
      have hll := hpl l ho
      rw [ho] at hpa
      have HPA := Lib.hid hpa
      clear hpa ho hpl
      simp only
      have wl : IntKind.u64.wrap (l.length : Int) = (l.length : Int) := by rw [IntKind.wrap_u64]; omega
      by_cases hn : l.length = n
      · rw [if_pos hn]
        have hq : ((l.length : Int) != (n : Int)) = false := by simp; omega
        have HN := Lib.hid hn
        clear hn
        go_enter Try.func36, Try.ntmps36
        go_wp2_with fail
        refine (own_widthsR _).mono ?_
        rintro e w1 ⟨⟨v, rfl, hv⟩, he1⟩
        have r2 := (RowIs.new w 84 #[.int .u64 0, .int .u32 0, .slice none 0 0]).ext he1
        have hE1 := (Ext.alloc w (.cells #[.int .u64 0, .int .u32 0, .slice none 0 0] 84)).trans he1
        go_wp2_with fail
        refine (HRD.out v _ hv).mono ?_
        rintro e w2 ⟨b, o, d, rfl, ⟨c0, c1, c2⟩, he2⟩
        replace r2 := r2.ext he2
        replace hE1 := hE1.trans he2
        go_wp2_with fail
        refine (HPA.out _).mono ?_
        rintro e w3 ⟨⟨a, ca, rfl, hR, _⟩, he3⟩
        replace r2 := r2.ext he3
        replace hE1 := hE1.trans he3
        replace c0 := cell_ext c0 he3
        replace c1 := cell_ext c1 he3
        replace c2 := cell_ext c2 he3
        have hbw := box_ne r2 c1
        have HR := Lib.hid hR
        clear hR he3 he2
        go_upto_region 7 with (fail)
        have wc := HWC.out
        have m1 : (w.heap.size, #[Value.int .u64 (q : Int), Value.int .u32 (c : Int), Value.slice a l.length ca], 84) ∈ [(w.heap.size, #[Value.int .u64 (q : Int), Value.int .u32 (c : Int), Value.slice a l.length ca], 84)] := List.mem_cons_self
        have u1 : ∀ p ∈ [(w.heap.size, #[Value.int .u64 (q : Int), Value.int .u32 (c : Int), Value.slice a l.length ca], 84)], p.1 = w.heap.size → p = (w.heap.size, #[Value.int .u64 (q : Int), Value.int .u32 (c : Int), Value.slice a l.length ca], 84) := by intro p hp _; simpa using hp
        have hb' : ∀ p ∈ [(w.heap.size, #[Value.int .u64 (q : Int), Value.int .u32 (c : Int), Value.slice a l.length ca], 84)], w.heap.size ≤ p.1 := by intro p hp; simp at hp; rw [hp]; exact Nat.le_refl _
        have hn2 : ∀ p ∈ [(w.heap.size, #[Value.int .u64 (q : Int), Value.int .u32 (c : Int), Value.slice a l.length ca], 84)], p.1 ≠ b := by intro p hp; simp at hp; rw [hp]; exact hbw
        clear wl hq
        refine RR.wp_region_drift_lit (n := 44) (Boxes.rel [(w.heap.size, #[Value.int .u64 (q : Int), Value.int .u32 (c : Int), Value.slice a l.length ca], 84)]) (by kernel_rfl) (by kernel_rfl) (by rfl) ?_
        apply RR.chain_val
        · rfl
        · intro w2 hx  K hK
          simp only [Act.put, List.setIfInBounds_toArray, List.set_cons_zero, List.set_cons_succ] at hK ⊢
          go_simp
          exact hK _ _ (RR.Rel.refl (Boxes.rel [(w.heap.size, #[Value.int .u64 (q : Int), Value.int .u32 (c : Int), Value.slice a l.length ca], 84)]) _) rfl
        apply RR.chain_val
        · rfl
        · intro w2 hx  K hK
          simp only [Act.put, List.setIfInBounds_toArray, List.set_cons_zero, List.set_cons_succ] at hK ⊢
          go_simp
          exact hK _ _ (RR.Rel.refl (Boxes.rel [(w.heap.size, #[Value.int .u64 (q : Int), Value.int .u32 (c : Int), Value.slice a l.length ca], 84)]) _) rfl
        apply RR.chain_val (.int .u64 (q : Int))
        · rfl
        · intro w2 hx  K hK
          simp only [Act.put, List.setIfInBounds_toArray, List.set_cons_zero, List.set_cons_succ] at hK ⊢
          have hc := Boxes.cell c0 hn2 hx
          go_simp
          exact hK _ _ ((Boxes.rel [(w.heap.size, #[Value.int .u64 (q : Int), Value.int .u32 (c : Int), Value.slice a l.length ca], 84)]).refl _) rfl
        apply RR.chain_val
        · rfl
        · intro w2 hx  K hK
          simp only [Act.put, List.setIfInBounds_toArray, List.set_cons_zero, List.set_cons_succ] at hK ⊢
          go_simp
          exact hK _ _ (RR.Rel.refl (Boxes.rel [(w.heap.size, #[Value.int .u64 (q : Int), Value.int .u32 (c : Int), Value.slice a l.length ca], 84)]) _) rfl
        apply RR.chain_val
        · rfl
        · intro w2 hx  K hK
          simp only [Act.put, List.setIfInBounds_toArray, List.set_cons_zero, List.set_cons_succ] at hK ⊢
          go_simp
          exact hK _ _ (RR.Rel.refl (Boxes.rel [(w.heap.size, #[Value.int .u64 (q : Int), Value.int .u32 (c : Int), Value.slice a l.length ca], 84)]) _) rfl
        apply RR.chain_val (.int .u64 (c : Int))
        · rfl
        · intro w2 hx  K hK
          simp only [Act.put, List.setIfInBounds_toArray, List.set_cons_zero, List.set_cons_succ] at hK ⊢
          have hc := Boxes.cell c1 hn2 hx
          go_simp
          exact hK _ _ ((Boxes.rel [(w.heap.size, #[Value.int .u64 (q : Int), Value.int .u32 (c : Int), Value.slice a l.length ca], 84)]).refl _) rfl
        apply RR.chain_val (.int .u32 (c : Int))
        · rfl
        · intro w2 hx  K hK
          simp only [Act.put, List.setIfInBounds_toArray, List.set_cons_zero, List.set_cons_succ] at hK ⊢
          go_simp
          exact hK _ _ ((Boxes.rel [(w.heap.size, #[Value.int .u64 (q : Int), Value.int .u32 (c : Int), Value.slice a l.length ca], 84)]).refl _) rfl
        apply RR.chain_val
        · rfl
        · intro w2 hx  K hK
          simp only [Act.put, List.setIfInBounds_toArray, List.set_cons_zero, List.set_cons_succ] at hK ⊢
          go_simp
          exact hK _ _ (RR.Rel.refl (Boxes.rel [(w.heap.size, #[Value.int .u64 (q : Int), Value.int .u32 (c : Int), Value.slice a l.length ca], 84)]) _) rfl
        apply RR.chain_val (.agg #[Value.int .u64 (q : Int), Value.int .u32 (c : Int), Value.slice a l.length ca])
        · rfl
        · intro w2 hx  K hK
          simp only [Act.put, List.setIfInBounds_toArray, List.set_cons_zero, List.set_cons_succ] at hK ⊢
          go_simp
          exact hK _ _ ((Boxes.rel [(w.heap.size, #[Value.int .u64 (q : Int), Value.int .u32 (c : Int), Value.slice a l.length ca], 84)]).refl _) rfl
        refine RR.chain_store (PtrRow w.heap.size 84 #[Value.int .u64 (q : Int), Value.int .u32 (c : Int), Value.slice a l.length ca]) (fun _ _ _ e h => PtrRow.kept m1 h e) rfl rfl ?_ ?_
        · intro w2 hx  K hK
          simp only [Act.put, List.setIfInBounds_toArray, List.set_cons_zero, List.set_cons_succ] at hK ⊢
          obtain ⟨q9, hr, hc⟩ := RowIs.either m1 r2 hx
          have hs : q9.size = 3 := by rcases hc with rfl | rfl <;> rfl
          exact step_store rfl rfl rfl rfl hr (by kernel_rfl) hs (by simp [Value.oneCell']) (let ⟨e, q⟩ := setRow_boxes hr m1 u1; hK _ e ⟨rfl, q⟩)
        apply RR.chain_val
        · rfl
        · intro w2 hx _ _ v9 h9 K hK
          simp only [Act.put, List.setIfInBounds_toArray, List.set_cons_zero, List.set_cons_succ] at hK ⊢
          go_simp
          exact hK _ _ (RR.Rel.refl (Boxes.rel [(w.heap.size, #[Value.int .u64 (q : Int), Value.int .u32 (c : Int), Value.slice a l.length ca], 84)]) _) rfl
        refine RR.chain_end fun w2 hx => ?_
        simp only [List.reverse_cons, List.reverse_nil, List.nil_append, List.cons_append, RR.withDeps, Act.put, List.setIfInBounds_toArray, List.set_cons_zero, List.set_cons_succ]
        intro v9 h9
        obtain ⟨rfl, h9⟩ := h9
        go_wp2_with fail
        (try simp only [Exit.inBlock, Exit.then])
        refine bodyPost_ret (results_ctR Try.results36 _ _ rfl h9 Try.underlying84 rfl (by kernel_rfl)) rfl ?_
        exact ⟨⟨a, ca, rfl, recs_boxes HR.out r2 hx⟩, Boxes.ext hE1 hx hb'⟩
      · rw [if_neg hn]
        have hq : ((l.length : Int) != (n : Int)) = true := by simp; omega
        clear hn
        go_enter Try.func36, Try.ntmps36
        go_wp2_with fail
        refine (own_widthsR _).mono ?_
        rintro e w1 ⟨⟨v, rfl, hv⟩, he1⟩
        have r2 := (RowIs.new w 84 #[.int .u64 0, .int .u32 0, .slice none 0 0]).ext he1
        have hE1 := (Ext.alloc w (.cells #[.int .u64 0, .int .u32 0, .slice none 0 0] 84)).trans he1
        go_wp2_with fail
        refine (HRD.out v _ hv).mono ?_
        rintro e w2 ⟨b, o, d, rfl, ⟨c0, c1, c2⟩, he2⟩
        replace r2 := r2.ext he2
        replace hE1 := hE1.trans he2
        go_wp2_with fail
        refine (HPA.out _).mono ?_
        rintro e w3 ⟨⟨a, ca, rfl, hR, _⟩, he3⟩
        replace r2 := r2.ext he3
        replace hE1 := hE1.trans he3
        replace c0 := cell_ext c0 he3
        replace c1 := cell_ext c1 he3
        replace c2 := cell_ext c2 he3
        clear hR he3 he2
        have R2 := Lib.hid r2
        clear r2
        go_wp2_with (refine wpl_row rfl rfl rfl rfl R2.out (by kernel_rfl) rfl (by simp [Value.oneCell']) ?_; intro w6 hw6 hr6; have HW6 := Lib.hid hw6; have HR6 := Lib.hid hr6; clear hw6 hr6)
        (try simp only [Exit.inBlock, Exit.then])
        refine bodyPost_ret (results_ctR Try.results36 _ _ rfl HR6.out Try.underlying84 rfl (by kernel_rfl)) rfl ?_
        exact ⟨rfl, HW6.out.ext hE1 (Nat.le_refl _)⟩
  · rw [if_neg h14]
    exact ropen_no s w h14
set_option maxRecDepth 100000 in
set_option maxHeartbeats 4000000 in
theorem refopen_no (s : ByteArray) (w : World) (h14 : ¬ 14 ≤ s.size) : Calls Try.prog 37 #[.string s] w fun e w' => OpenPost none e w' ∧ Ext w w' := by
  have HRD := Lib.hid (fun v w hv => refreadR_no s v w h14 hv)
  go_enter Try.func37, Try.ntmps37
  go_upto_region 2 with (fail)
  have r2 := (RowIs.new w 75 #[.int .u64 0, .int .u32 0, .slice none 0 0]).ext (Ext.alloc _ (.cells #[.int .u64 0, .int .u32 0, .slice none 0 0] 75))
  have r4 := RowIs.new2 w (.cells #[.int .u64 0, .int .u32 0, .slice none 0 0] 75) 75 #[.int .u64 0, .int .u32 0, .slice none 0 0]
  have hE1 := (Ext.alloc w (.cells #[.int .u64 0, .int .u32 0, .slice none 0 0] 75)).trans (Ext.alloc _ (.cells #[.int .u64 0, .int .u32 0, .slice none 0 0] 75))
  generalize (w.alloc (.cells #[.int .u64 0, .int .u32 0, .slice none 0 0] 75)).alloc (.cells #[.int .u64 0, .int .u32 0, .slice none 0 0] 75) = w1 at *
  go_wp2_with fail
  have hv : SlI .i64 3 wsR (.slice (some ⟨w1.heap.size, 0, none⟩) 3 3) (w1.alloc (.cells #[.int .i64 8, .int .i64 4, .int .i64 2] 3)) := ⟨_, _, rfl, ints_new w1 .i64 _ wsR rfl⟩
  replace r2 := r2.ext (Ext.alloc w1 (.cells #[.int .i64 8, .int .i64 4, .int .i64 2] 3))
  replace r4 := r4.ext (Ext.alloc w1 (.cells #[.int .i64 8, .int .i64 4, .int .i64 2] 3))
  replace hE1 := hE1.trans (Ext.alloc w1 (.cells #[.int .i64 8, .int .i64 4, .int .i64 2] 3))
  refine (HRD.out _ _ hv).mono ?_
  rintro e w2 ⟨rfl, he2⟩
  replace r2 := r2.ext he2
  replace r4 := r4.ext he2
  replace hE1 := hE1.trans he2
  have z0 := r4.cell 0 (.int .u64 0) rfl
  have z1 := r4.cell 1 (.int .u32 0) rfl
  have z2 := r4.cell 2 (.slice none 0 0) rfl
  have R2 := Lib.hid r2
  clear r2
  go_wp2_with (refine wpl_row rfl rfl rfl rfl R2.out (by kernel_rfl) rfl (by simp [Value.oneCell']) ?_; intro w6 hw6 hr6; have HW6 := Lib.hid hw6; have HR6 := Lib.hid hr6; clear hw6 hr6)
  (try simp only [Exit.inBlock, Exit.then])
  refine bodyPost_ret (results_ctR Try.results37 _ _ rfl HR6.out Try.underlying75 rfl (by kernel_rfl)) rfl ?_
  exact ⟨rfl, HW6.out.ext hE1 (Nat.le_refl _)⟩
set_option maxRecDepth 100000 in
set_option maxHeartbeats 4000000 in
theorem refopen_any (s : ByteArray) (w : World) (hs : s.size ≤ 100000) : Calls Try.prog 37 #[.string s] w fun e w' => OpenPost (Rec.opens s) e w' ∧ Ext w w' := by
  unfold Rec.opens
  by_cases h14 : 14 ≤ s.size
  · rw [if_pos h14]
    have hrd := fun v w hv => refreadR_yes s v w h14 (by unfold maxLen; omega) hv
    have hlt := Rec.rd_lt s.data.toList
    unfold HeadPost at hrd
    generalize Rec.rd s.data.toList = R at *
    obtain ⟨q, c, n⟩ := R
    obtain ⟨q1, q2, q3⟩ := hlt
    simp only at q1 q2 q3 hrd ⊢
    have hsz : (s.extract 14 s.size).size = s.size - 14 := by simp
    generalize s.extract 14 s.size = T at *
    have hpa := fun w => (refparse_any T w (by omega)).mono (R' := fun e w' => ParseAt (Rec.parseAll T) e w' ∧ Ext w w') fun e w' h => ⟨parseAt h.1, h.2⟩
    have hpl := fun l => parse_length T.size T l
    have HRD := Lib.hid hrd
    clear hrd
    have wc : IntKind.u32.wrap (c : Int) = (c : Int) := by rw [IntKind.wrap_u32]; omega
    have HWC := Lib.hid wc
    clear wc
    cases ho : Rec.parseAll T with
    | none =>
      rw [ho] at hpa
      have HPA := Lib.hid hpa
      clear hpa ho hpl
      go_enter Try.func37, Try.ntmps37
      go_upto_region 2 with (fail)
      have r2 := (RowIs.new w 75 #[.int .u64 0, .int .u32 0, .slice none 0 0]).ext (Ext.alloc _ (.cells #[.int .u64 0, .int .u32 0, .slice none 0 0] 75))
      have r4 := RowIs.new2 w (.cells #[.int .u64 0, .int .u32 0, .slice none 0 0] 75) 75 #[.int .u64 0, .int .u32 0, .slice none 0 0]
      have hE1 := (Ext.alloc w (.cells #[.int .u64 0, .int .u32 0, .slice none 0 0] 75)).trans (Ext.alloc _ (.cells #[.int .u64 0, .int .u32 0, .slice none 0 0] 75))
      generalize (w.alloc (.cells #[.int .u64 0, .int .u32 0, .slice none 0 0] 75)).alloc (.cells #[.int .u64 0, .int .u32 0, .slice none 0 0] 75) = w1 at *
      go_wp2_with fail
      have hv : SlI .i64 3 wsR (.slice (some ⟨w1.heap.size, 0, none⟩) 3 3) (w1.alloc (.cells #[.int .i64 8, .int .i64 4, .int .i64 2] 3)) := ⟨_, _, rfl, ints_new w1 .i64 _ wsR rfl⟩
      replace r2 := r2.ext (Ext.alloc w1 (.cells #[.int .i64 8, .int .i64 4, .int .i64 2] 3))
      replace r4 := r4.ext (Ext.alloc w1 (.cells #[.int .i64 8, .int .i64 4, .int .i64 2] 3))
      replace hE1 := hE1.trans (Ext.alloc w1 (.cells #[.int .i64 8, .int .i64 4, .int .i64 2] 3))
      refine (HRD.out _ _ hv).mono ?_
      rintro e w2 ⟨b, o, d, rfl, ⟨c0, c1, c2⟩, he2⟩
      replace r2 := r2.ext he2
      replace r4 := r4.ext he2
      replace hE1 := hE1.trans he2
      go_wp2_with fail
      refine (HPA.out _).mono ?_
      rintro e w3 ⟨rfl, he3⟩
      replace r2 := r2.ext he3
      replace r4 := r4.ext he3
      replace hE1 := hE1.trans he3
      have z0 := r4.cell 0 (.int .u64 0) rfl
      have z1 := r4.cell 1 (.int .u32 0) rfl
      have z2 := r4.cell 2 (.slice none 0 0) rfl
      have R2 := Lib.hid r2
      clear r2
      go_wp2_with (refine wpl_row rfl rfl rfl rfl R2.out (by kernel_rfl) rfl (by simp [Value.oneCell']) ?_; intro w6 hw6 hr6; have HW6 := Lib.hid hw6; have HR6 := Lib.hid hr6; clear hw6 hr6)
      (try simp only [Exit.inBlock, Exit.then])
      refine bodyPost_ret (results_ctR Try.results37 _ _ rfl HR6.out Try.underlying75 rfl (by kernel_rfl)) rfl ?_
      exact ⟨rfl, HW6.out.ext hE1 (Nat.le_refl _)⟩
    | some l =>
      have hll := hpl l ho
      rw [ho] at hpa
      have HPA := Lib.hid hpa
      clear hpa ho hpl
      simp only
      have wl : IntKind.u64.wrap (l.length : Int) = (l.length : Int) := by rw [IntKind.wrap_u64]; omega
      by_cases hn : l.length = n
      · rw [if_pos hn]
        have hq : ((l.length : Int) != (n : Int)) = false := by simp; omega
        have HN := Lib.hid hn
        clear hn
        go_enter Try.func37, Try.ntmps37
        go_upto_region 2 with (fail)
        have r2 := (RowIs.new w 75 #[.int .u64 0, .int .u32 0, .slice none 0 0]).ext (Ext.alloc _ (.cells #[.int .u64 0, .int .u32 0, .slice none 0 0] 75))
        have r4 := RowIs.new2 w (.cells #[.int .u64 0, .int .u32 0, .slice none 0 0] 75) 75 #[.int .u64 0, .int .u32 0, .slice none 0 0]
        have hE1 := (Ext.alloc w (.cells #[.int .u64 0, .int .u32 0, .slice none 0 0] 75)).trans (Ext.alloc _ (.cells #[.int .u64 0, .int .u32 0, .slice none 0 0] 75))
        generalize (w.alloc (.cells #[.int .u64 0, .int .u32 0, .slice none 0 0] 75)).alloc (.cells #[.int .u64 0, .int .u32 0, .slice none 0 0] 75) = w1 at *
        go_wp2_with fail
        have hv : SlI .i64 3 wsR (.slice (some ⟨w1.heap.size, 0, none⟩) 3 3) (w1.alloc (.cells #[.int .i64 8, .int .i64 4, .int .i64 2] 3)) := ⟨_, _, rfl, ints_new w1 .i64 _ wsR rfl⟩
        replace r2 := r2.ext (Ext.alloc w1 (.cells #[.int .i64 8, .int .i64 4, .int .i64 2] 3))
        replace r4 := r4.ext (Ext.alloc w1 (.cells #[.int .i64 8, .int .i64 4, .int .i64 2] 3))
        replace hE1 := hE1.trans (Ext.alloc w1 (.cells #[.int .i64 8, .int .i64 4, .int .i64 2] 3))
        refine (HRD.out _ _ hv).mono ?_
        rintro e w2 ⟨b, o, d, rfl, ⟨c0, c1, c2⟩, he2⟩
        replace r2 := r2.ext he2
        replace r4 := r4.ext he2
        replace hE1 := hE1.trans he2
        go_wp2_with fail
        refine (HPA.out _).mono ?_
        rintro e w3 ⟨⟨a, ca, rfl, hR, _⟩, he3⟩
        replace r2 := r2.ext he3
        replace r4 := r4.ext he3
        replace hE1 := hE1.trans he3
        replace c0 := cell_ext c0 he3
        replace c1 := cell_ext c1 he3
        replace c2 := cell_ext c2 he3
        have hbw := box_ne r2 c1
        have HR := Lib.hid hR
        clear hR he3 he2
        go_upto_region 8 with (fail)
        have wc := HWC.out
        have m1 : (w.heap.size, #[Value.int .u64 (q : Int), Value.int .u32 (c : Int), Value.slice a l.length ca], 75) ∈ [(w.heap.size, #[Value.int .u64 (q : Int), Value.int .u32 (c : Int), Value.slice a l.length ca], 75)] := List.mem_cons_self
        have u1 : ∀ p ∈ [(w.heap.size, #[Value.int .u64 (q : Int), Value.int .u32 (c : Int), Value.slice a l.length ca], 75)], p.1 = w.heap.size → p = (w.heap.size, #[Value.int .u64 (q : Int), Value.int .u32 (c : Int), Value.slice a l.length ca], 75) := by intro p hp _; simpa using hp
        have hb' : ∀ p ∈ [(w.heap.size, #[Value.int .u64 (q : Int), Value.int .u32 (c : Int), Value.slice a l.length ca], 75)], w.heap.size ≤ p.1 := by intro p hp; simp at hp; rw [hp]; exact Nat.le_refl _
        have hn2 : ∀ p ∈ [(w.heap.size, #[Value.int .u64 (q : Int), Value.int .u32 (c : Int), Value.slice a l.length ca], 75)], p.1 ≠ b := by intro p hp; simp at hp; rw [hp]; exact hbw
        clear wl hq
        refine RR.wp_region_drift_lit (n := 47) (Boxes.rel [(w.heap.size, #[Value.int .u64 (q : Int), Value.int .u32 (c : Int), Value.slice a l.length ca], 75)]) (by kernel_rfl) (by kernel_rfl) (by rfl) ?_
        apply RR.chain_val
        · rfl
        · intro w2 hx  K hK
          simp only [Act.put, List.setIfInBounds_toArray, List.set_cons_zero, List.set_cons_succ] at hK ⊢
          go_simp
          exact hK _ _ (RR.Rel.refl (Boxes.rel [(w.heap.size, #[Value.int .u64 (q : Int), Value.int .u32 (c : Int), Value.slice a l.length ca], 75)]) _) rfl
        apply RR.chain_val
        · rfl
        · intro w2 hx  K hK
          simp only [Act.put, List.setIfInBounds_toArray, List.set_cons_zero, List.set_cons_succ] at hK ⊢
          go_simp
          exact hK _ _ (RR.Rel.refl (Boxes.rel [(w.heap.size, #[Value.int .u64 (q : Int), Value.int .u32 (c : Int), Value.slice a l.length ca], 75)]) _) rfl
        apply RR.chain_val (.int .u64 (q : Int))
        · rfl
        · intro w2 hx  K hK
          simp only [Act.put, List.setIfInBounds_toArray, List.set_cons_zero, List.set_cons_succ] at hK ⊢
          have hc := Boxes.cell c0 hn2 hx
          go_simp
          exact hK _ _ ((Boxes.rel [(w.heap.size, #[Value.int .u64 (q : Int), Value.int .u32 (c : Int), Value.slice a l.length ca], 75)]).refl _) rfl
        apply RR.chain_val
        · rfl
        · intro w2 hx  K hK
          simp only [Act.put, List.setIfInBounds_toArray, List.set_cons_zero, List.set_cons_succ] at hK ⊢
          go_simp
          exact hK _ _ (RR.Rel.refl (Boxes.rel [(w.heap.size, #[Value.int .u64 (q : Int), Value.int .u32 (c : Int), Value.slice a l.length ca], 75)]) _) rfl
        apply RR.chain_val
        · rfl
        · intro w2 hx  K hK
          simp only [Act.put, List.setIfInBounds_toArray, List.set_cons_zero, List.set_cons_succ] at hK ⊢
          go_simp
          exact hK _ _ (RR.Rel.refl (Boxes.rel [(w.heap.size, #[Value.int .u64 (q : Int), Value.int .u32 (c : Int), Value.slice a l.length ca], 75)]) _) rfl
        apply RR.chain_val (.int .u64 (c : Int))
        · rfl
        · intro w2 hx  K hK
          simp only [Act.put, List.setIfInBounds_toArray, List.set_cons_zero, List.set_cons_succ] at hK ⊢
          have hc := Boxes.cell c1 hn2 hx
          go_simp
          exact hK _ _ ((Boxes.rel [(w.heap.size, #[Value.int .u64 (q : Int), Value.int .u32 (c : Int), Value.slice a l.length ca], 75)]).refl _) rfl
        apply RR.chain_val (.int .u32 (c : Int))
        · rfl
        · intro w2 hx  K hK
          simp only [Act.put, List.setIfInBounds_toArray, List.set_cons_zero, List.set_cons_succ] at hK ⊢
          go_simp
          exact hK _ _ ((Boxes.rel [(w.heap.size, #[Value.int .u64 (q : Int), Value.int .u32 (c : Int), Value.slice a l.length ca], 75)]).refl _) rfl
        apply RR.chain_val
        · rfl
        · intro w2 hx  K hK
          simp only [Act.put, List.setIfInBounds_toArray, List.set_cons_zero, List.set_cons_succ] at hK ⊢
          go_simp
          exact hK _ _ (RR.Rel.refl (Boxes.rel [(w.heap.size, #[Value.int .u64 (q : Int), Value.int .u32 (c : Int), Value.slice a l.length ca], 75)]) _) rfl
        apply RR.chain_val (.agg #[Value.int .u64 (q : Int), Value.int .u32 (c : Int), Value.slice a l.length ca])
        · rfl
        · intro w2 hx  K hK
          simp only [Act.put, List.setIfInBounds_toArray, List.set_cons_zero, List.set_cons_succ] at hK ⊢
          go_simp
          exact hK _ _ ((Boxes.rel [(w.heap.size, #[Value.int .u64 (q : Int), Value.int .u32 (c : Int), Value.slice a l.length ca], 75)]).refl _) rfl
        refine RR.chain_store (PtrRow w.heap.size 75 #[Value.int .u64 (q : Int), Value.int .u32 (c : Int), Value.slice a l.length ca]) (fun _ _ _ e h => PtrRow.kept m1 h e) rfl rfl ?_ ?_
        · intro w2 hx  K hK
          simp only [Act.put, List.setIfInBounds_toArray, List.set_cons_zero, List.set_cons_succ] at hK ⊢
          obtain ⟨q9, hr, hc⟩ := RowIs.either m1 r2 hx
          have hs : q9.size = 3 := by rcases hc with rfl | rfl <;> rfl
          exact step_store rfl rfl rfl rfl hr (by kernel_rfl) hs (by simp [Value.oneCell']) (let ⟨e, q⟩ := setRow_boxes hr m1 u1; hK _ e ⟨rfl, q⟩)
        apply RR.chain_val
        · rfl
        · intro w2 hx _ _ v9 h9 K hK
          simp only [Act.put, List.setIfInBounds_toArray, List.set_cons_zero, List.set_cons_succ] at hK ⊢
          go_simp
          exact hK _ _ (RR.Rel.refl (Boxes.rel [(w.heap.size, #[Value.int .u64 (q : Int), Value.int .u32 (c : Int), Value.slice a l.length ca], 75)]) _) rfl
        refine RR.chain_end fun w2 hx => ?_
        simp only [List.reverse_cons, List.reverse_nil, List.nil_append, List.cons_append, RR.withDeps, Act.put, List.setIfInBounds_toArray, List.set_cons_zero, List.set_cons_succ]
        intro v9 h9
        obtain ⟨rfl, h9⟩ := h9
        go_wp2_with fail
        (try simp only [Exit.inBlock, Exit.then])
        refine bodyPost_ret (results_ctR Try.results37 _ _ rfl h9 Try.underlying75 rfl (by kernel_rfl)) rfl ?_
        exact ⟨⟨a, ca, rfl, recs_boxes HR.out r2 hx⟩, Boxes.ext hE1 hx hb'⟩
      · rw [if_neg hn]
        have hq : ((l.length : Int) != (n : Int)) = true := by simp; omega
        clear hn
        go_enter Try.func37, Try.ntmps37
        go_upto_region 2 with (fail)
        have r2 := (RowIs.new w 75 #[.int .u64 0, .int .u32 0, .slice none 0 0]).ext (Ext.alloc _ (.cells #[.int .u64 0, .int .u32 0, .slice none 0 0] 75))
        have r4 := RowIs.new2 w (.cells #[.int .u64 0, .int .u32 0, .slice none 0 0] 75) 75 #[.int .u64 0, .int .u32 0, .slice none 0 0]
        have hE1 := (Ext.alloc w (.cells #[.int .u64 0, .int .u32 0, .slice none 0 0] 75)).trans (Ext.alloc _ (.cells #[.int .u64 0, .int .u32 0, .slice none 0 0] 75))
        generalize (w.alloc (.cells #[.int .u64 0, .int .u32 0, .slice none 0 0] 75)).alloc (.cells #[.int .u64 0, .int .u32 0, .slice none 0 0] 75) = w1 at *
        go_wp2_with fail
        have hv : SlI .i64 3 wsR (.slice (some ⟨w1.heap.size, 0, none⟩) 3 3) (w1.alloc (.cells #[.int .i64 8, .int .i64 4, .int .i64 2] 3)) := ⟨_, _, rfl, ints_new w1 .i64 _ wsR rfl⟩
        replace r2 := r2.ext (Ext.alloc w1 (.cells #[.int .i64 8, .int .i64 4, .int .i64 2] 3))
        replace r4 := r4.ext (Ext.alloc w1 (.cells #[.int .i64 8, .int .i64 4, .int .i64 2] 3))
        replace hE1 := hE1.trans (Ext.alloc w1 (.cells #[.int .i64 8, .int .i64 4, .int .i64 2] 3))
        refine (HRD.out _ _ hv).mono ?_
        rintro e w2 ⟨b, o, d, rfl, ⟨c0, c1, c2⟩, he2⟩
        replace r2 := r2.ext he2
        replace r4 := r4.ext he2
        replace hE1 := hE1.trans he2
        go_wp2_with fail
        refine (HPA.out _).mono ?_
        rintro e w3 ⟨⟨a, ca, rfl, hR, _⟩, he3⟩
        replace r2 := r2.ext he3
        replace r4 := r4.ext he3
        replace hE1 := hE1.trans he3
        replace c0 := cell_ext c0 he3
        replace c1 := cell_ext c1 he3
        replace c2 := cell_ext c2 he3
        clear hR he3 he2
        have z0 := r4.cell 0 (.int .u64 0) rfl
        have z1 := r4.cell 1 (.int .u32 0) rfl
        have z2 := r4.cell 2 (.slice none 0 0) rfl
        have R2 := Lib.hid r2
        clear r2
        go_wp2_with (refine wpl_row rfl rfl rfl rfl R2.out (by kernel_rfl) rfl (by simp [Value.oneCell']) ?_; intro w6 hw6 hr6; have HW6 := Lib.hid hw6; have HR6 := Lib.hid hr6; clear hw6 hr6)
        (try simp only [Exit.inBlock, Exit.then])
        refine bodyPost_ret (results_ctR Try.results37 _ _ rfl HR6.out Try.underlying75 rfl (by kernel_rfl)) rfl ?_
        exact ⟨rfl, HW6.out.ext hE1 (Nat.le_refl _)⟩
  · rw [if_neg h14]
    exact refopen_no s w h14
end Go.Proofs.Ytemhflafiephpaa
