/- A region that draws its order, each of whose operations leaves the world in a relation R of one's own choosing (a preorder): one obligation an operation, whatever the order; stores too. Condition: each operation has a temporary of its own, or none, and sees only what its own edges bring. -/
import Derived.Test.YtbnpldilkkhgmaaBytes
import Derived.Still
namespace Go.Proofs.Ytbnpldilkkhgmaa.RR
open Go.RowKit
/-- a preorder of worlds -/
structure Rel (R : World → World → Prop) : Prop where
  refl : ∀ w, R w w
  trans : ∀ {a b c}, R a b → R b c → R a c
  drew : ∀ w, R w w.drew
/-- What is known of an operation's value: it is c; or it meets g. -/
abbrev OSpec := Sum Value (Value → World → Prop)
def holds : OSpec → Value → World → Prop
  | .inl c, v, _ => v = c
  | .inr g, v, w => g v w
def stable (R : World → World → Prop) : OSpec → Prop
  | .inl _ => True
  | .inr g => ∀ v w w', R w w' → g v w → g v w'
theorem stable_out {R : World → World → Prop} {s : OSpec} (h : stable R s) {v : Value} {w w' : World} (e : R w w') (k : holds s v w) : holds s v w' := by
  cases s with
  | inl c => exact k
  | inr g => exact h v w w' e k
def withDeps (F : Act → Prop) (w : World) : List (Option Tmp × OSpec) → Act → Prop
  | [], a => F a
  | (d, Sum.inl c) :: l, a => withDeps F w l (a.put d c)
  | (d, Sum.inr g) :: l, a => ∀ v, g v w → withDeps F w l (a.put d v)
def valOf (a : Act) : Option Tmp → Value
  | some d => a.tmps.getD d undef
  | none => undef
/-- the temporary that tells what an operation does: its own; of a store, the one that holds the address -/
def view (o : Oper) : Option Tmp := match o.dst with
  | some d => some d
  | none => match o.op with
    | .store _ (.tmp x) _ => some x
    | _ => none
/-- its value behind the operation -/
def aim (o : Oper) (a : Act) (v : Value) : Value := match o.dst with
  | some _ => v
  | none => valOf a (view o)
theorem view_some {o : Oper} {d : Tmp} (h : o.dst = some d) : view o = some d := by simp [view, h]
theorem aim_some {o : Oper} {d : Tmp} (h : o.dst = some d) (a : Act) (v : Value) : aim o a v = v := by simp [aim, h]
theorem aim_none {o : Oper} (h : o.dst = none) (a : Act) (v : Value) : aim o a v = valOf a (view o) := by simp [aim, h]
theorem view_looks {o : Oper} (h : o.dst = none) {x : Tmp} (hx : view o = some x) (ops : Array Oper) : x ∈ o.looksAt ops := by
  unfold view at hx
  rw [h] at hx
  simp only at hx
  split at hx
  · rename_i t y v ho
    cases hx
    unfold Oper.looksAt
    refine List.mem_append_left _ (List.mem_filterMap.2 ⟨.tmp x, ?_, rfl⟩)
    rw [ho]; simp [Op.operands]
  · cases hx
def obl (R : World → World → Prop) (P : Program) (ops : Array Oper) (o : Oper) (s : OSpec) (w : World) (a : Act) : Prop :=
  ∀ K : Act → World → Prop, (∀ v w', R w w' → holds s (aim o a v) w' → K (a.put o.dst v) w') →
    if Region.wanted o (yielded ops a.tmps) then o.wp P a w K (fun _ _ _ => False) else K (a.put o.dst undef) w
def depsOf (o : Oper) : List Nat := (o.after.toList.filter (Region.binds .any ·)).map (·.on)
def chain (R : World → World → Prop) (P : Program) (ops : Array Oper) (w0 : World) (a0 : Act) (Q : Exit → Act → World → Prop) : List Oper → List (Option Tmp × OSpec) → Prop
  | [], done => ∀ w, R w0 w → withDeps (fun a => Q .normal a w) w done a0
  | o :: rest, done => ∃ s : OSpec, stable R s ∧
      (∀ w, R w0 w → withDeps (obl R P ops o s w) w ((depsOf o).map fun i => done.getD i (none, Sum.inl undef)) a0) ∧ chain R P ops w0 a0 Q rest (done ++ [(view o, s)])
/-- Operation i: what stands ahead of it stands ahead in the text; each temporary that it looks at, if one of the region's operations writes it, is written ahead of it, or behind it. -/
def okAt (ops : Array Oper) (i : Nat) (o : Oper) : Bool :=
  (depsOf o).all (· < i) && (match o.op with | .select .. => false | _ => true) &&
  (o.looksAt ops).all fun t => (List.range ops.size).all fun j => match ops[j]? with
    | some p => p.dst != some t || (depsOf o).contains j || (o.dst.isSome && (depsOf p).contains i)
    | none => true
def okAll (ops : Array Oper) (n : Nat) : Bool :=
  ((List.range ops.size).all fun i => match ops[i]? with | some o => okAt ops i o && (match o.dst with | some d => decide (d < n) | none => true) | none => true) &&
  ((List.range ops.size).all fun i => (List.range ops.size).all fun j => i == j || (match ops[i]?, ops[j]? with | some o, some p => o.dst != p.dst || o.dst == none | _, _ => true))

section
variable {R : World → World → Prop} {P : Program} {ops : Array Oper} {w0 : World} {a0 : Act} {Q : Exit → Act → World → Prop}

theorem withDeps_get {F : Act → Prop} {w : World} (vs : Option Tmp → Value) : ∀ (l : List (Option Tmp × OSpec)) (b : Act), (∀ p, p ∈ l → holds p.2 (vs p.1) w) → withDeps F w l b →
    F (l.foldl (fun b p => b.put p.1 (vs p.1)) b)
  | [], _, _, h => h
  | (d, Sum.inl c) :: l, b, hp, h => by
    have e : vs d = c := hp (d, Sum.inl c) (by simp)
    have := withDeps_get vs l (b.put d c) (fun p hq => hp p (by simp [hq])) h
    simpa [e] using this
  | (d, Sum.inr g) :: l, b, hp, h => by
    have e : g (vs d) w := hp (d, Sum.inr g) (by simp)
    exact withDeps_get vs l (b.put d (vs d)) (fun p hq => hp p (by simp [hq])) (h (vs d) e)

theorem chain_out : ∀ (l : List Oper) (done : List (Option Tmp × OSpec)), chain R P ops w0 a0 Q l done → (∀ k o, l[k]? = some o → ∀ i ∈ depsOf o, i < done.length + k) →
    ∃ S : List (Option Tmp × OSpec), S.length = done.length + l.length ∧ (∀ i, i < done.length → S[i]? = done[i]?) ∧
      (∀ k o, l[k]? = some o → ∃ s : OSpec, S[done.length + k]? = some (view o, s) ∧ stable R s ∧
        ∀ w, R w0 w → withDeps (obl R P ops o s w) w ((depsOf o).map fun i => S.getD i (none, Sum.inl undef)) a0) ∧
      (∀ w, R w0 w → withDeps (fun a => Q .normal a w) w S a0)
  | [], done, h, _ => ⟨done, by simp, fun _ _ => rfl, fun k o hk => by simp at hk, h⟩
  | o :: l, done, h, hd => by
    obtain ⟨s, hs, ho, hc⟩ := h
    obtain ⟨S, h1, h2, h3, h4⟩ := chain_out l _ hc (fun k p hk i hi => by have := hd (k + 1) p (by simpa using hk) i hi; simp; omega)
    simp only [List.length_append, List.length_cons, List.length_nil] at h1 h2 h3
    refine ⟨S, by simp; omega, fun i hi => ?_, fun k p hk => ?_, h4⟩
    · rw [h2 i (by omega), List.getElem?_append_left hi]
    · cases k with
      | zero =>
        have hop : o = p := by simpa using hk
        subst hop
        refine ⟨s, ?_, hs, fun w hw => ?_⟩
        · rw [Nat.add_zero, h2 _ (by omega), List.getElem?_append_right (Nat.le_refl _)]; simp
        · have := ho w hw
          have e : ((depsOf o).map fun i => S.getD i (none, Sum.inl undef)) = ((depsOf o).map fun i => done.getD i (none, Sum.inl undef)) := by
            refine List.map_congr_left fun i hi => ?_
            have hi' := hd 0 o (by simp) i hi
            rw [List.getD_eq_getElem?_getD, List.getD_eq_getElem?_getD, h2 i (by omega), List.getElem?_append_left (by omega)]
          rw [e]; exact this
      | succ k =>
        have hk' : l[k]? = some p := by simpa using hk
        have := h3 k p hk'
        rw [show done.length + (k + 1) = done.length + (0 + 1) + k from by omega]
        exact this

/-- What holds in the middle of an order. -/
structure Mid (R : World → World → Prop) (ops : Array Oper) (w0 : World) (a0 : Act) (S : List (Option Tmp × OSpec)) (listed : Array Bool) (a : Act) (w : World) : Prop where
  ext : R w0 w
  size : a.tmps.size = a0.tmps.size
  defers : a.defers = a0.defers
  down : ∀ i o, ops[i]? = some o → listed.getD i false = true → ∀ j ∈ depsOf o, listed.getD j false = true
  old : ∀ t, (∀ i o, ops[i]? = some o → o.dst = some t → listed.getD i false = false) → a.tmps[t]? = a0.tmps[t]?
  new : ∀ i o s, ops[i]? = some o → S[i]? = some (view o, s) → listed.getD i false = true → holds s (valOf a (view o)) w

theorem getD_of_true {listed : Array Bool} {i : Nat} (h : listed.getD i true = false) : i < listed.size ∧ listed.getD i false = false := by
  rcases Nat.lt_or_ge i listed.size with h' | h'
  · exact ⟨h', by simp [h'] at h ⊢; exact h⟩
  · simp [Array.getElem?_eq_none h'] at h

theorem foldl_size (vs : Option Tmp → Value) : ∀ (l : List (Option Tmp × OSpec)) (b : Act), (l.foldl (fun b p => b.put p.1 (vs p.1)) b).tmps.size = b.tmps.size ∧ (l.foldl (fun b p => b.put p.1 (vs p.1)) b).defers = b.defers
  | [], b => ⟨rfl, rfl⟩
  | p :: l, b => by
    obtain ⟨h1, h2⟩ := foldl_size vs l (b.put p.1 (vs p.1))
    refine ⟨?_, ?_⟩
    · rw [List.foldl_cons, h1]; cases p.1 <;> simp [Act.put]
    · rw [List.foldl_cons, h2]; cases p.1 <;> simp [Act.put]

/-- A temporary behind a list of puts. -/
theorem foldl_get (vs : Option Tmp → Value) (t : Tmp) : ∀ (l : List (Option Tmp × OSpec)) (b : Act), t < b.tmps.size →
    (l.foldl (fun b p => b.put p.1 (vs p.1)) b).tmps[t]? = if l.any (fun p => p.1 == some t) then some (vs (some t)) else b.tmps[t]?
  | [], b, _ => by simp
  | p :: l, b, ht => by
    have hsz : (b.put p.1 (vs p.1)).tmps.size = b.tmps.size := by cases p.1 <;> simp [Act.put]
    rw [List.foldl_cons, foldl_get vs t l _ (by rw [hsz]; exact ht), List.any_cons]
    rcases p with ⟨d, s⟩
    cases d with
    | none => simp only [Act.put]; rw [show ((none : Option Tmp) == some t) = false from rfl, Bool.false_or]
    | some d =>
      by_cases hd : d = t
      · subst hd; simp [Act.put, ht]
      · simp only [Act.put]
        rw [Array.getElem?_setIfInBounds_ne hd, show ((some d : Option Tmp) == some t) = false from by simpa using hd, Bool.false_or]

theorem okAll_at {n : Nat} (h : okAll ops n = true) {i : Nat} {o : Oper} (hi : ops[i]? = some o) : okAt ops i o = true ∧ ∀ d, o.dst = some d → d < n := by
  unfold okAll at h
  simp only [Bool.and_eq_true, List.all_eq_true, List.mem_range] at h
  have hlt : i < ops.size := by
    rcases Nat.lt_or_ge i ops.size with h' | h'
    · exact h'
    · rw [Array.getElem?_eq_none h'] at hi; cases hi
  have := h.1 i hlt
  rw [hi] at this
  simp only [Bool.and_eq_true] at this
  refine ⟨this.1, fun d hd => ?_⟩
  have h2 := this.2
  rw [hd] at h2
  simpa using h2

theorem okAll_ne {n : Nat} (h : okAll ops n = true) {i j : Nat} {o p : Oper} (hi : ops[i]? = some o) (hj : ops[j]? = some p) (hne : i ≠ j) {d : Tmp} (ho : o.dst = some d) (hp : p.dst = some d) : False := by
  unfold okAll at h
  simp only [Bool.and_eq_true, List.all_eq_true, List.mem_range] at h
  have lt : ∀ {i : Nat} {o : Oper}, ops[i]? = some o → i < ops.size := fun {i o} hi => by
    rcases Nat.lt_or_ge i ops.size with h' | h'
    · exact h'
    · rw [Array.getElem?_eq_none h'] at hi; cases hi
  have := h.2 i (lt hi) j (lt hj)
  rw [hi, hj] at this
  simp [ho, hp] at this
  exact hne this

/-- What an operation that may come up sees in the frame at hand is what it sees in the frame of its own edges. -/
theorem sees {n : Nat} (hB : okAll ops n = true) {S : List (Option Tmp × OSpec)} (hS : ∀ (k : Nat) (o : Oper), ops[k]? = some o → ∃ s : OSpec, S[k]? = some (view o, s))
    {listed : Array Bool} {a : Act} {w : World} (m : Mid R ops w0 a0 S listed a w)
    {i : Nat} {o : Oper} (hi : ops[i]? = some o) (hun : listed.getD i false = false) (t : Tmp) (ht : t ∈ o.looksAt ops) :
    (((depsOf o).map fun i => S.getD i (none, Sum.inl undef)).foldl (fun b p => b.put p.1 (valOf a p.1)) a0).tmps[t]? = a.tmps[t]? := by
  obtain ⟨hok, _⟩ := okAll_at hB hi
  rcases Nat.lt_or_ge t a0.tmps.size with hlt | hge
  · rw [foldl_get (valOf a) t _ _ hlt]
    by_cases hany : (((depsOf o).map fun i => S.getD i (none, Sum.inl undef)).any fun p => p.1 == some t) = true
    · rw [if_pos hany]
      have : t < a.tmps.size := by rw [m.size]; exact hlt
      simp [valOf, this]
    · rw [if_neg hany]
      symm
      refine m.old t fun j p hj hd => ?_
      have hlt : j < ops.size := by
        rcases Nat.lt_or_ge j ops.size with h' | h'
        · exact h'
        · rw [Array.getElem?_eq_none h'] at hj; cases hj
      unfold okAt at hok
      simp only [Bool.and_eq_true, List.all_eq_true, List.mem_range] at hok
      have h1 := hok.2 t ht j hlt
      rw [hj] at h1
      simp only [Bool.or_eq_true] at h1
      rcases h1 with (h1 | h1) | h1
      · rw [hd] at h1; simp at h1
      · exfalso
        apply hany
        rw [List.any_eq_true]
        obtain ⟨s, hs⟩ := hS j p hj
        refine ⟨S.getD j (none, Sum.inl undef), List.mem_map.2 ⟨j, by simpa using h1, rfl⟩, ?_⟩
        rw [List.getD_eq_getElem?_getD, hs]
        simp [view_some hd]
      · have h1 := (Bool.and_eq_true _ _ ▸ h1 : _ ∧ _).2
        cases hlj : listed.getD j false with
        | false => rfl
        | true =>
          have := m.down j p hj hlj i (by simpa using h1)
          rw [hun] at this; cases this
  · rw [Array.getElem?_eq_none (xs := a.tmps) (by rw [m.size]; exact hge), Array.getElem?_eq_none (by rw [(foldl_size _ _ _).1]; exact hge)]

theorem put_inj {a : Act} {d : Tmp} {v u : Value} (hd : d < a.tmps.size) (h : a.put (some d) v = a.put (some d) u) : v = u := by
  have : (a.put (some d) v).tmps[d]? = (a.put (some d) u).tmps[d]? := by rw [h]
  simpa [Act.put, hd] using this

theorem getD_set_self {listed : Array Bool} {i : Nat} (h : i < listed.size) : (listed.setIfInBounds i true).getD i false = true := by
  simp [h]

theorem valOf_put_self {a : Act} {o : Oper} {v : Value} (h : ∀ d, o.dst = some d → d < a.tmps.size) : valOf (a.put o.dst v) (view o) = aim o a v := by
  cases hd : o.dst with
  | none => rw [aim_none hd]; rfl
  | some d => rw [aim_some hd, view_some hd]; simp [valOf, Act.put, h d hd]
theorem valOf_put_ne {a : Act} {x y : Option Tmp} {v : Value} (h : ∀ d, x = some d → y = some d → False) : valOf (a.put x v) y = valOf a y := by
  cases x with
  | none => rfl
  | some d =>
    cases y with
    | none => rfl
    | some e =>
      have : d ≠ e := fun q => h d rfl (by rw [q])
      simp [valOf, Act.put, Array.getElem?_setIfInBounds_ne this]
theorem put_size (a : Act) (x : Option Tmp) (v : Value) : (a.put x v).tmps.size = a.tmps.size ∧ (a.put x v).defers = a.defers := by
  cases x <;> simp [Act.put]
theorem put_get_ne {a : Act} {x : Option Tmp} {v : Value} {t : Tmp} (h : x ≠ some t) : (a.put x v).tmps[t]? = a.tmps[t]? := by
  cases x with
  | none => rfl
  | some d =>
    have : d ≠ t := fun q => h (by rw [q])
    simp [Act.put, Array.getElem?_setIfInBounds_ne this]
theorem Mid.step {n : Nat} (hR : Rel R) (hB : okAll ops n = true) (hn : a0.tmps.size = n) {S : List (Option Tmp × OSpec)}
    (hst : ∀ (k : Nat) (o : Oper) (s : OSpec), ops[k]? = some o → S[k]? = some (view o, s) → stable R s)
    {listed : Array Bool} {a : Act} {w w' : World} (m : Mid R ops w0 a0 S listed a w) {i : Nat} {o : Oper} {s : OSpec} {v : Value}
    (hi : ops[i]? = some o) (hs : S[i]? = some (view o, s)) (hl : i < listed.size) (hdeps : ∀ j ∈ depsOf o, listed.getD j false = true)
    (hun : listed.getD i false = false) (he : R w w') (hv : holds s (aim o a v) w') : Mid R ops w0 a0 S (listed.setIfInBounds i true) (a.put o.dst v) w' := by
  obtain ⟨hok, hdn⟩ := okAll_at hB hi
  have hda : ∀ d, o.dst = some d → d < a.tmps.size := fun d hd => by rw [m.size, hn]; exact hdn d hd
  refine ⟨hR.trans m.ext he, by rw [(put_size _ _ _).1, m.size], by rw [(put_size _ _ _).2, m.defers], fun j p hj hlj k hk => ?_, fun t ht => ?_, fun j p s' hj hsj hlj => ?_⟩
  · by_cases hji : j = i
    · subst hji
      rw [hi] at hj; cases hj
      exact getD_set_true (hdeps k hk)
    · rw [getD_set_ne false (Ne.symm hji)] at hlj
      exact getD_set_true (m.down j p hj hlj k hk)
  · have hdt : o.dst ≠ some t := fun e => by
      have := ht i o hi e
      rw [getD_set_self hl] at this; cases this
    rw [put_get_ne hdt]
    refine m.old t fun j p hj hdj => ?_
    have := ht j p hj hdj
    have hji : j ≠ i := fun e => by subst e; rw [getD_set_self hl] at this; cases this
    rwa [getD_set_ne false (Ne.symm hji)] at this
  · by_cases hji : j = i
    · subst hji
      rw [hi] at hj; cases hj
      rw [hs] at hsj; cases hsj
      rw [valOf_put_self hda]; exact hv
    · rw [getD_set_ne false (Ne.symm hji)] at hlj
      have := stable_out (hst j p s' hj hsj) he (m.new j p s' hj hsj hlj)
      rw [valOf_put_ne fun d h1 h2 => ?_]
      · exact this
      · cases hp : p.dst with
        | some d' =>
          rw [view_some hp] at h2; cases h2
          exact okAll_ne hB hi hj (Ne.symm hji) h1 hp
        | none =>
          have hlk := view_looks hp h2 ops
          obtain ⟨hok2, _⟩ := okAll_at hB hj
          unfold okAt at hok2
          simp only [Bool.and_eq_true, List.all_eq_true, List.mem_range] at hok2
          have hio : i < ops.size := by
            rcases Nat.lt_or_ge i ops.size with h' | h'
            · exact h'
            · rw [Array.getElem?_eq_none h'] at hi; cases hi
          have q := hok2.2 d hlk i hio
          rw [hi] at q
          simp only [h1, hp, Bool.or_eq_true] at q
          rcases q with (q | q) | q
          · simp at q
          · have := m.down j p hj hlj i (by simpa using q)
            rw [hun] at this; cases this
          · simp at q

theorem eval_of_gets {a b : Act} {o : Oper} (h : ∀ t ∈ o.looksAt ops, b.tmps[t]? = a.tmps[t]?) : ∀ x ∈ o.op.operands, b.eval x = a.eval x := fun x hx => by
  cases x with
  | tmp t =>
    have : t ∈ o.looksAt ops := by
      unfold Oper.looksAt
      refine List.mem_append_left _ (List.mem_filterMap.2 ⟨.tmp t, by simpa using hx, rfl⟩)
    simp [Act.eval, h t this]
  | _ => rfl

theorem wanted_of_gets {a b : Act} {o : Oper} (h : ∀ t ∈ o.looksAt ops, b.tmps[t]? = a.tmps[t]?) : Region.wanted o (yielded ops b.tmps) = Region.wanted o (yielded ops a.tmps) := by
  unfold Region.wanted
  cases hg : o.guard with
  | none => rfl
  | some gw =>
    obtain ⟨g, want⟩ := gw
    have hy : yielded ops b.tmps g = yielded ops a.tmps g := by
      unfold yielded
      cases ht : (ops[g]?).bind (·.dst) with
      | none => rfl
      | some t =>
        have : t ∈ o.looksAt ops := by
          unfold Oper.looksAt
          refine List.mem_append_right _ ?_
          simp [hg, ht]
        simp [h t this]
    simp only [hy]

theorem wpOp_of_obl {n : Nat} (hR : Rel R) (hB : okAll ops n = true) (hn : a0.tmps.size = n) {S : List (Option Tmp × OSpec)} (hS : ∀ (k : Nat) (o : Oper), ops[k]? = some o → ∃ s : OSpec, S[k]? = some (view o, s) ∧ stable R s ∧
        ∀ w, R w0 w → withDeps (obl R P ops o s w) w ((depsOf o).map fun i => S.getD i (none, Sum.inl undef)) a0)
    {listed : Array Bool} {a : Act} {w : World} (m : Mid R ops w0 a0 S listed a w) (hls : listed.size = ops.size)
    {i : Nat} (hr : i ∈ Region.ready .any ops listed) {K : Act → World → Prop} (hK : ∀ a' w', Mid R ops w0 a0 S (listed.setIfInBounds i true) a' w' → K a' w') : wpOp P ops Q i K a w := by
  obtain ⟨hun, o, hi, hall⟩ := mem_ready.1 hr
  obtain ⟨hlt, hun'⟩ := getD_of_true hun
  obtain ⟨hok, hdn⟩ := okAll_at hB hi
  have hdeps : ∀ j ∈ depsOf o, listed.getD j false = true := fun j hj => by
    unfold depsOf at hj
    obtain ⟨e, he, rfl⟩ := List.mem_map.1 hj
    rw [List.mem_filter] at he
    exact hall e (by simpa using he.1) he.2
  have hst : ∀ (k : Nat) (o : Oper) (s : OSpec), ops[k]? = some o → S[k]? = some (view o, s) → stable R s := fun k o s hk hs => by
    obtain ⟨s', hs', h, _⟩ := hS k o hk
    rw [hs] at hs'; cases hs'; exact h
  obtain ⟨s, hs, _, hob⟩ := hS i o hi
  have hsee := sees hB (fun k o hk => let ⟨s, h, _⟩ := hS k o hk; ⟨s, h⟩) m hi hun'
  have h1 := withDeps_get (valOf a) _ _ (fun p hp => by
    obtain ⟨j, hj, rfl⟩ := List.mem_map.1 hp
    have hlj := hdeps j hj
    have hji : j < i := by
      unfold okAt at hok
      simp only [Bool.and_eq_true, List.all_eq_true] at hok
      simpa using hok.1.1 j hj
    have hil : i < ops.size := by omega
    obtain ⟨p, hp⟩ : ∃ p, ops[j]? = some p := ⟨ops[j]'(by omega), by simp [show j < ops.size from by omega]⟩
    obtain ⟨s', hs', _⟩ := hS j p hp
    rw [List.getD_eq_getElem?_getD, hs']
    simp only [Option.getD_some]
    exact m.new j p s' hp hs' hlj) (hob w m.ext)
  generalize hb : (((depsOf o).map fun i => S.getD i (none, Sum.inl undef)).foldl (fun b p => b.put p.1 (valOf a p.1)) a0) = b at *
  have hbs : b.tmps.size = a0.tmps.size := by rw [← hb]; exact (foldl_size _ _ _).1
  have hev := eval_of_gets (ops := ops) hsee
  have hwa := wanted_of_gets hsee
  have hsel : ∀ cs b, o.op ≠ .select cs b := fun cs b h => by
    unfold okAt at hok
    simp only [Bool.and_eq_true] at hok
    have := hok.1.2
    rw [h] at this
    cases this
  have hex : execOp b.eval o = execOp a.eval o := execOp_congr o hsel hev
  have h2 := h1 (fun a' w' => ∃ v, a' = b.put o.dst v ∧ R w w' ∧ holds s (aim o b v) w') (fun v w' e hv => ⟨v, rfl, e, hv⟩)
  have fin : ∀ v w', (∃ u, b.put o.dst v = b.put o.dst u ∧ R w w' ∧ holds s (aim o b u) w') → K (a.put o.dst v) w' := fun v w' ⟨u, e, he, hu⟩ => by
    have hfit : aim o b u = aim o a v := by
      cases hd : o.dst with
      | none =>
        rw [aim_none hd, aim_none hd]
        cases hv : view o with
        | none => rfl
        | some x =>
          have := hsee x (view_looks hd hv ops)
          simp only [valOf, Array.getD_eq_getD_getElem?, this]
      | some d =>
        rw [hd] at e
        have := put_inj (by rw [hbs, hn]; exact hdn d hd) e
        subst this
        rw [aim_some hd, aim_some hd]
    rw [hfit] at hu
    exact hK _ _ (m.step hR hB hn hst hi hs hlt hdeps hun' he hu)
  unfold wpOp
  simp only [hi]
  rw [hwa] at h2
  split
  · rename_i hw
    rw [if_pos hw] at h2
    refine .inl ?_
    unfold Oper.wp at *
    rw [hex] at h2
    generalize (execOp a.eval o).run P w = r at *
    cases r with
    | ok x w' =>
      cases x <;> simp only [Oper.upon] at h2 ⊢
      case value v => exact fin v w' h2
      case skip => exact fin _ w' h2
      case defer df =>
        exfalso
        obtain ⟨v, e, _⟩ := h2
        have := congrArg Act.defers e
        rw [(put_size _ _ _).2, (put_size _ _ _).2] at this
        simp at this
      case enter f args =>
        refine Calls.mono h2 fun e w'' he => ?_
        cases e with
        | returned v => exact fin v w'' he
        | panicked c => exact he.elim
        | outgrown => obtain ⟨_, _, h⟩ := he; exact h.elim
      case row row args =>
        exact Rows.mono h2 fun v w'' he => fin v w'' he
    | halt x w' => cases x <;> simp only [Oper.upon] at h2
  · rename_i hw
    rw [if_neg hw] at h2
    exact fin _ w h2

theorem wpAny_of_mid {n : Nat} (hR : Rel R) (hB : okAll ops n = true) (hn : a0.tmps.size = n) {S : List (Option Tmp × OSpec)} (hS : ∀ (k : Nat) (o : Oper), ops[k]? = some o → ∃ s : OSpec, S[k]? = some (view o, s) ∧ stable R s ∧
        ∀ w, R w0 w → withDeps (obl R P ops o s w) w ((depsOf o).map fun i => S.getD i (none, Sum.inl undef)) a0)
    (hend : ∀ listed a w, listed.size = ops.size → Mid R ops w0 a0 S listed a w → Region.ready .any ops listed = [] → Q .normal a w) :
    ∀ (fuel : Nat) (listed : Array Bool) (a : Act) (w : World), listed.size = ops.size → (Region.ready .any ops listed = [] ∨ fuel = fuel) → Mid R ops w0 a0 S listed a w →
      (listed.toList.filter (· == false)).length ≤ fuel → wpAny P .any ops Q fuel listed a w := by
  intro fuel
  induction fuel with
  | zero =>
    intro listed a w hls _ m hf
    have hr : Region.ready .any ops listed = [] := by
      cases hr : Region.ready .any ops listed with
      | nil => rfl
      | cons x xs =>
        exfalso
        have hx : x ∈ Region.ready .any ops listed := by rw [hr]; simp
        obtain ⟨hun, _⟩ := mem_ready.1 hx
        obtain ⟨hlt, hun'⟩ := getD_of_true hun
        have : false ∈ listed.toList.filter (· == false) := by
          rw [List.mem_filter]
          refine ⟨?_, rfl⟩
          have e : listed[x] = false := by simpa [hlt] using hun'
          rw [← e]; simp
        have h0 : listed.toList.filter (· == false) = [] := List.length_eq_zero_iff.1 (by omega)
        rw [h0] at this; cases this
    exact ⟨hr, hend listed a w hls m hr⟩
  | succ fuel ih =>
    intro listed a w hls _ m hf
    refine ⟨fun hr => hend listed a w hls m hr, fun i hi => ?_⟩
    refine wpOp_of_obl hR hB hn hS m hls hi fun a' w' m' => ih _ _ _ (by simpa using hls) (.inr rfl) m' ?_
    obtain ⟨hun, _⟩ := mem_ready.1 hi
    obtain ⟨hlt, hun'⟩ := getD_of_true hun
    have e : listed[i] = false := by simpa [hlt] using hun'
    have key : ∀ (l : List Bool) (k : Nat), l[k]? = some false → ((l.set k true).filter (· == false)).length + 1 = (l.filter (· == false)).length := by
      intro l
      induction l with
      | nil => intro k h; simp at h
      | cons x l ihl =>
        intro k h
        cases k with
        | zero => simp at h; subst h; simp
        | succ k =>
          simp only [List.getElem?_cons_succ] at h
          have := ihl k h
          simp only [List.set_cons_succ, List.filter_cons]; split <;> (try simp only [List.length_cons]) <;> omega
    have h1 := key listed.toList i (by simp [hlt, e])
    simp only [Array.toList_setIfInBounds]
    omega

theorem all_listed (hdeps : ∀ i o, ops[i]? = some o → ∀ j ∈ depsOf o, j < i) {listed : Array Bool} (hls : listed.size = ops.size) (hr : Region.ready .any ops listed = []) :
    ∀ i, i < ops.size → listed.getD i false = true := by
  intro i
  induction i using Nat.strongRecOn with
  | _ i ih =>
    intro hi
    cases hl : listed.getD i false with
    | true => rfl
    | false =>
      exfalso
      have : i ∈ Region.ready .any ops listed := mem_ready.2 ⟨by have h' : i < listed.size := by omega
                                                                 simp [h'] at hl ⊢; exact hl, ops[i], by simp [hi], fun e he hb => ?_⟩
      · rw [hr] at this; cases this
      · have hm : e.on ∈ depsOf ops[i] := by
          unfold depsOf
          exact List.mem_map.2 ⟨e, List.mem_filter.2 ⟨by simpa using he, hb⟩, rfl⟩
        have h1 := hdeps i ops[i] (by simp [hi]) e.on hm
        exact ih e.on h1 (by omega)

/-- THE LAW. -/
theorem wp_region_drift {id n : Nat} (hR : Rel R) (hm : P.follows .mixedOrders = true) (hB : okAll ops n = true) (hn : a0.tmps.size = n)
    (h : chain R P ops w0 a0 Q ops.toList []) : (Code.region id ops true).wp P Q a0 w0 := by
  have hdeps : ∀ i o, ops[i]? = some o → ∀ j ∈ depsOf o, j < i := fun i o hi j hj => by
    obtain ⟨hok, _⟩ := okAll_at hB hi
    unfold okAt at hok
    simp only [Bool.and_eq_true, List.all_eq_true] at hok
    simpa using hok.1.1 j hj
  obtain ⟨S, h1, h2, h3, h4⟩ := chain_out ops.toList [] h (fun k o hk i hi => by simpa using hdeps k o (by simpa using hk) i hi)
  simp only [List.length_nil, Nat.zero_add] at h1 h3
  have hS : ∀ (k : Nat) (o : Oper), ops[k]? = some o → ∃ s : OSpec, S[k]? = some (view o, s) ∧ stable R s ∧
        ∀ w, R w0 w → withDeps (obl R P ops o s w) w ((depsOf o).map fun i => S.getD i (none, Sum.inl undef)) a0 := fun k o hk => h3 k o (by simpa using hk)
  refine wp_region_any hm (wpAny_of_mid hR hB hn hS (fun listed a w hls m hr => ?_) _ _ _ _ (by simp) (.inr rfl) ?_ ?_)
  · have hall := all_listed hdeps hls hr
    have hd := withDeps_get (valOf a) S a0 (fun p hp => by
      obtain ⟨i, hi⟩ := List.getElem?_of_mem hp
      have hlt : i < ops.size := by
        have := (List.getElem?_eq_some_iff.1 hi).1
        simpa [h1] using this
      obtain ⟨s, hs, _⟩ := hS i ops[i] (by simp [hlt])
      rw [hi] at hs
      cases hs
      exact m.new i ops[i] s (by simp [hlt]) hi (hall i hlt)) (h4 w m.ext)
    have e : (S.foldl (fun b p => b.put p.1 (valOf a p.1)) a0) = a := by
      obtain ⟨e1, e2⟩ := foldl_size (valOf a) S a0
      have e3 : (S.foldl (fun b p => b.put p.1 (valOf a p.1)) a0).tmps = a.tmps := by
        refine Array.ext_getElem? fun t => ?_
        rcases Nat.lt_or_ge t a0.tmps.size with hlt | hge
        · rw [foldl_get (valOf a) t S a0 hlt]
          by_cases hany : (S.any fun p => p.1 == some t) = true
          · rw [if_pos hany]
            have : t < a.tmps.size := by rw [m.size]; exact hlt
            simp [valOf, this]
          · rw [if_neg hany]
            symm
            refine m.old t fun j p hj hd => ?_
            exfalso
            apply hany
            obtain ⟨s, hs, _⟩ := hS j p hj
            rw [List.any_eq_true]
            exact ⟨(view p, s), List.mem_of_getElem? hs, by simp [view_some hd]⟩
        · rw [Array.getElem?_eq_none (xs := a.tmps) (by rw [m.size]; exact hge), Array.getElem?_eq_none (by rw [e1]; exact hge)]
      have e4 : (S.foldl (fun b p => b.put p.1 (valOf a p.1)) a0).defers = a.defers := e2.trans m.defers.symm
      generalize (S.foldl (fun b p => b.put p.1 (valOf a p.1)) a0) = b at *
      cases b; cases a; simp_all
    rw [e] at hd
    exact hd
  · have no : ∀ i, (Array.replicate ops.size false).getD i false = false := fun i => by
      rcases Nat.lt_or_ge i ops.size with h' | h'
      · simp [h']
      · simp [Array.getElem?_eq_none (show (Array.replicate ops.size false).size ≤ i by simpa using h')]
    refine ⟨hR.drew _, rfl, rfl, fun i o _ hl => ?_, fun t _ => rfl, fun i o s _ _ hl => ?_⟩
    · rw [no i] at hl; cases hl
    · rw [no i] at hl; cases hl
  · simp
/-- What is known so far, the last operation first. -/
def getR (r : List (Option Tmp × OSpec)) (i : Nat) : Option Tmp × OSpec := if i < r.length then r.getD (r.length - 1 - i) (none, Sum.inl undef) else (none, Sum.inl undef)
theorem getR_eq (r : List (Option Tmp × OSpec)) (i : Nat) : r.reverse.getD i (none, Sum.inl undef) = getR r i := by
  unfold getR
  split
  · rename_i h
    rw [List.getD_eq_getElem?_getD, List.getD_eq_getElem?_getD, List.getElem?_reverse h]
  · rename_i h
    rw [List.getD_eq_getElem?_getD, List.getElem?_eq_none (by simpa using h)]; rfl
def chainR (R : World → World → Prop) (P : Program) (ops : Array Oper) (w0 : World) (a0 : Act) (Q : Exit → Act → World → Prop) (l : List Oper) (r : List (Option Tmp × OSpec)) : Prop := chain R P ops w0 a0 Q l r.reverse
theorem wp_region_drift_lit {id n : Nat} {l : List Oper} (hR : Rel R) (hm : P.follows .mixedOrders = true) (hB : okAll l.toArray n = true) (hn : a0.tmps.size = n)
    (h : chainR R P l.toArray w0 a0 Q l []) : (Code.region id l.toArray true).wp P Q a0 w0   := wp_region_drift hR hm hB hn (by simpa [chainR] using h)
theorem withDeps_mono {F G : Act → Prop} {w : World} (h : ∀ a, F a → G a) : ∀ (l : List (Option Tmp × OSpec)) (a : Act), withDeps F w l a → withDeps G w l a
  | [], a, k => h a k
  | (_, Sum.inl _) :: l, _, k => withDeps_mono h l _ k
  | (_, Sum.inr _) :: l, _, k => fun v hv => withDeps_mono h l _ (k v hv)
def obl1 (R : World → World → Prop) (P : Program) (ops : Array Oper) (o : Oper) (s : OSpec) (w : World) (a : Act) : Prop :=
  ∀ K : Act → World → Prop, (∀ v w', R w w' → holds s v w' → K (a.put o.dst v) w') →
    if Region.wanted o (yielded ops a.tmps) then o.wp P a w K (fun _ _ _ => False) else K (a.put o.dst undef) w
theorem obl_of {o : Oper} {s : OSpec} {w : World} (hd : o.dst.isSome = true) (l : List (Option Tmp × OSpec)) (a : Act) (h : withDeps (obl1 R P ops o s w) w l a) : withDeps (obl R P ops o s w) w l a :=
  withDeps_mono (fun a k K hK => k K fun v w' e hv => hK v w' e (by
    obtain ⟨d, hd⟩ := Option.isSome_iff_exists.1 hd
    rw [aim_some hd]; exact hv)) l a h
def obl0 (R : World → World → Prop) (P : Program) (ops : Array Oper) (o : Oper) (x : Tmp) (g : Value → World → Prop) (w : World) (a : Act) : Prop :=
  ∀ K : Act → World → Prop, (∀ w', R w w' → g (a.tmps.getD x undef) w' → K a w') →
    if Region.wanted o (yielded ops a.tmps) then o.wp P a w K (fun _ _ _ => False) else K (a.put o.dst undef) w
/-- One operation whose value is c, whatever the order. -/
theorem chain_val {o : Oper} {rest : List Oper} {done : List (Option Tmp × OSpec)} {d : Tmp} (c : Value) (hd : o.dst = some d)
    (h : ∀ w, R w0 w → withDeps (obl1 R P ops o (Sum.inl c) w) w ((depsOf o).map (getR done)) a0)
    (k : chainR R P ops w0 a0 Q rest ((some d, Sum.inl c) :: done)) : chainR R P ops w0 a0 Q (o :: rest) done :=
  ⟨Sum.inl c, trivial, by simpa only [getR_eq] using fun w hw => obl_of (by rw [hd]; rfl) _ _ (h w hw), by rw [view_some hd]; rw [chainR, List.reverse_cons] at k; exact k⟩
/-- One operation whose value meets g. -/
theorem chain_pred {o : Oper} {rest : List Oper} {done : List (Option Tmp × OSpec)} {d : Tmp} (g : Value → World → Prop) (hg : ∀ v w w', R w w' → g v w → g v w') (hd : o.dst = some d)
    (h : ∀ w, R w0 w → withDeps (obl1 R P ops o (Sum.inr g) w) w ((depsOf o).map (getR done)) a0)
    (k : chainR R P ops w0 a0 Q rest ((some d, Sum.inr g) :: done)) : chainR R P ops w0 a0 Q (o :: rest) done :=
  ⟨Sum.inr g, hg, by simpa only [getR_eq] using fun w hw => obl_of (by rw [hd]; rfl) _ _ (h w hw), by rw [view_some hd]; rw [chainR, List.reverse_cons] at k; exact k⟩
/-- A store: what then holds of the address. -/
theorem chain_store {o : Oper} {rest : List Oper} {done : List (Option Tmp × OSpec)} {x : Tmp} (g : Value → World → Prop) (hg : ∀ v w w', R w w' → g v w → g v w') (hn : o.dst = none) (hv : view o = some x)
    (h : ∀ w, R w0 w → withDeps (obl0 R P ops o x g w) w ((depsOf o).map (getR done)) a0)
    (k : chainR R P ops w0 a0 Q rest ((some x, Sum.inr g) :: done)) : chainR R P ops w0 a0 Q (o :: rest) done :=
  ⟨Sum.inr g, hg, by simpa only [getR_eq] using fun w hw => withDeps_mono (fun a k K hK => k K fun w' e q => by
    have := hK undef w' e (by rw [aim_none hn, hv]; exact q)
    rw [hn] at this; exact this) _ _ (h w hw), by rw [hv]; rw [chainR, List.reverse_cons] at k; exact k⟩
theorem chain_end {done : List (Option Tmp × OSpec)} (h : ∀ w, R w0 w → withDeps (fun a => Q .normal a w) w done.reverse a0) : chainR R P ops w0 a0 Q [] done := h
end
end Go.Proofs.Ytbnpldilkkhgmaa.RR
