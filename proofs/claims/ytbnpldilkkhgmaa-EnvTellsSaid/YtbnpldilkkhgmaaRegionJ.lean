/- A region that draws its order, by one condition J of what is done so far and of the world: one obligation an operation, whatever the order. Condition: each operation has a temporary of its own, and sees only what its own edges bring. -/
import Derived.Test.YtbnpldilkkhgmaaDrift
namespace Go.Proofs.Ytbnpldilkkhgmaa
open Go.RowKit
namespace RJ
def okAt (ops : Array Oper) (i : Nat) (o : Oper) : Bool :=
  (depsOf o).all (· < i) && (match o.op with | .select .. => false | _ => true) &&
  (o.looksAt ops).all fun t => (List.range ops.size).all fun j => match ops[j]? with
    | some p => p.dst != some t || (depsOf o).contains j || (depsOf p).contains i
    | none => true
def okAll (ops : Array Oper) (n : Nat) : Bool :=
  ((List.range ops.size).all fun i => match ops[i]? with | some o => okAt ops i o && (match o.dst with | some d => decide (d < n) | none => true) | none => true) &&
  ((List.range ops.size).all fun i => (List.range ops.size).all fun j => i == j || (match ops[i]?, ops[j]? with | some o, some p => o.dst != p.dst || o.dst == none | _, _ => true))
/-- what each operation gave, if it is done -/
abbrev Vals := Nat → Option Value
def upd (vs : Vals) (i : Nat) (v : Value) : Vals := fun k => if k = i then some v else vs k
@[simp] theorem upd_self (vs : Vals) (i : Nat) (v : Value) : upd vs i v i = some v := by simp [upd]
theorem upd_ne (vs : Vals) {i k : Nat} (v : Value) (h : k ≠ i) : upd vs i v k = vs k := by simp [upd, h]
def dstOf (ops : Array Oper) (j : Nat) : Option Tmp := (ops[j]?).bind (·.dst)
/-- the frame of an operation's own edges: of an operation whose value is fixed it, of another one what it gave -/
def bind (ops : Array Oper) (S : List (Option Value)) (vs : Vals) (F : Act → Prop) : List Nat → Act → Prop
  | [], b => F b
  | j :: l, b => match S.getD j none with
    | some c => bind ops S vs F l (b.put (dstOf ops j) c)
    | none => ∀ v, vs j = some v → bind ops S vs F l (b.put (dstOf ops j) v)
def gave (o : Oper) (v : Value) : Value := match o.dst with | some _ => v | none => undef
def obl (P : Program) (ops : Array Oper) (J : Vals → World → Prop) (S : List (Option Value)) (i : Nat) (o : Oper) (vs : Vals) (w : World) (b : Act) : Prop :=
  ∀ K : Act → World → Prop, (∀ v w', (match S.getD i none with | some c => v = c | none => True) → J (upd vs i (gave o v)) w' → K (b.put o.dst v) w') →
    if Region.wanted o (yielded ops b.tmps) then o.wp P b w K (fun _ _ _ => False) else K (b.put o.dst undef) w
section
variable {P : Program} {ops : Array Oper} {w0 : World} {a0 : Act} {Q : Exit → Act → World → Prop} {J : Vals → World → Prop} {S : List (Option Value)}

def valsOf (ops : Array Oper) (listed : Array Bool) (a : Act) : Vals := fun i => if listed.getD i false then some (valOf a (dstOf ops i)) else none

def frame (ops : Array Oper) (a : Act) (l : List Nat) (b : Act) : Act := l.foldl (fun b j => b.put (dstOf ops j) (valOf a (dstOf ops j))) b

structure Mid (ops : Array Oper) (a0 : Act) (S : List (Option Value)) (listed : Array Bool) (a : Act) : Prop where
  size : a.tmps.size = a0.tmps.size
  defers : a.defers = a0.defers
  down : ∀ i o, ops[i]? = some o → listed.getD i false = true → ∀ j ∈ depsOf o, listed.getD j false = true
  old : ∀ t, (∀ i o, ops[i]? = some o → o.dst = some t → listed.getD i false = false) → a.tmps[t]? = a0.tmps[t]?
  fix : ∀ i o d c, ops[i]? = some o → S.getD i none = some c → o.dst = some d → listed.getD i false = true → a.tmps.getD d undef = c

theorem lt_of_some {i : Nat} {o : Oper} (h : ops[i]? = some o) : i < ops.size := by
  rcases Nat.lt_or_ge i ops.size with h' | h'
  · exact h'
  · rw [Array.getElem?_eq_none h'] at h; cases h

theorem bind_frame {F : Act → Prop} {listed : Array Bool} {a : Act} (m : Mid ops a0 S listed a) : ∀ (l : List Nat) (b : Act), (∀ j ∈ l, j < ops.size ∧ listed.getD j false = true) →
    bind ops S (valsOf ops listed a) F l b → F (frame ops a l b)
  | [], _, _, h => h
  | j :: l, b, hl, h => by
    obtain ⟨hj, hlj⟩ := hl j (by simp)
    unfold bind at h
    cases hs : S.getD j none with
    | some c =>
      rw [hs] at h
      have := bind_frame m l _ (fun k hk => hl k (by simp [hk])) h
      have e4 : b.put (dstOf ops j) c = b.put (dstOf ops j) (valOf a (dstOf ops j)) := by
        cases hdd : dstOf ops j with
        | none => rfl
        | some d =>
          have e5 : ops[j].dst = some d := by simpa [dstOf, hj] using hdd
          have e2 := m.fix j ops[j] d c (by simp [hj]) hs e5 hlj
          show b.put (some d) c = b.put (some d) (a.tmps.getD d undef)
          rw [e2]
      show F (frame ops a l (b.put (dstOf ops j) (valOf a (dstOf ops j))))
      rw [← e4]; exact this
    | none =>
      rw [hs] at h
      exact bind_frame m l _ (fun k hk => hl k (by simp [hk])) (h (valOf a (dstOf ops j)) (by simp only [valsOf, hlj, if_true]))

theorem frame_size (a : Act) : ∀ (l : List Nat) (b : Act), (frame ops a l b).tmps.size = b.tmps.size ∧ (frame ops a l b).defers = b.defers
  | [], b => ⟨rfl, rfl⟩
  | j :: l, b => by
    obtain ⟨h1, h2⟩ := frame_size a l (b.put (dstOf ops j) (valOf a (dstOf ops j)))
    refine ⟨?_, ?_⟩
    · show (frame ops a l _).tmps.size = _
      rw [h1]; cases dstOf ops j <;> simp [Act.put]
    · show (frame ops a l _).defers = _
      rw [h2]; cases dstOf ops j <;> simp [Act.put]

theorem frame_get (a : Act) (t : Tmp) : ∀ (l : List Nat) (b : Act), t < b.tmps.size →
    (frame ops a l b).tmps[t]? = if l.any (fun j => dstOf ops j == some t) then some (valOf a (some t)) else b.tmps[t]?
  | [], b, _ => by simp [frame]
  | j :: l, b, ht => by
    have hsz : (b.put (dstOf ops j) (valOf a (dstOf ops j))).tmps.size = b.tmps.size := by cases dstOf ops j <;> simp [Act.put]
    show (frame ops a l (b.put (dstOf ops j) (valOf a (dstOf ops j)))).tmps[t]? = _
    rw [frame_get a t l _ (by rw [hsz]; exact ht), List.any_cons]
    cases hd : dstOf ops j with
    | none => simp only [Act.put]; rw [show ((none : Option Tmp) == some t) = false from rfl, Bool.false_or]
    | some d =>
      by_cases hdt : d = t
      · subst hdt; simp [Act.put, ht]
      · simp only [Act.put]
        rw [Array.getElem?_setIfInBounds_ne hdt, show ((some d : Option Tmp) == some t) = false from by simpa using hdt, Bool.false_or]

theorem okAll_at {n : Nat} (h : okAll ops n = true) {i : Nat} {o : Oper} (hi : ops[i]? = some o) : okAt ops i o = true ∧ ∀ d, o.dst = some d → d < n := by
  unfold okAll at h
  simp only [Bool.and_eq_true, List.all_eq_true, List.mem_range] at h
  have := h.1 i (lt_of_some hi)
  rw [hi] at this
  simp only [Bool.and_eq_true] at this
  refine ⟨this.1, fun d hd => ?_⟩
  have h2 := this.2
  rw [hd] at h2
  simpa using h2

theorem okAll_ne {n : Nat} (h : okAll ops n = true) {i j : Nat} {o p : Oper} (hi : ops[i]? = some o) (hj : ops[j]? = some p) (hne : i ≠ j) {d : Tmp} (hd : o.dst = some d) : p.dst ≠ some d := by
  unfold okAll at h
  simp only [Bool.and_eq_true, List.all_eq_true, List.mem_range] at h
  have := h.2 i (lt_of_some hi) j (lt_of_some hj)
  rw [hi, hj] at this
  simp [hd] at this
  exact fun e => (this.resolve_left hne) e.symm

theorem sees {n : Nat} (hB : okAll ops n = true) {listed : Array Bool} {a : Act} (m : Mid ops a0 S listed a)
    {i : Nat} {o : Oper} (hi : ops[i]? = some o) (hun : listed.getD i false = false) (t : Tmp) (ht : t ∈ o.looksAt ops) :
    (frame ops a (depsOf o) a0).tmps[t]? = a.tmps[t]? := by
  obtain ⟨hok, _⟩ := okAll_at hB hi
  rcases Nat.lt_or_ge t a0.tmps.size with hlt | hge
  · rw [frame_get a t _ _ hlt]
    by_cases hany : ((depsOf o).any fun j => dstOf ops j == some t) = true
    · rw [if_pos hany]
      have : t < a.tmps.size := by rw [m.size]; exact hlt
      simp [valOf, this]
    · rw [if_neg hany]
      symm
      refine m.old t fun j p hj hd => ?_
      have hlt := lt_of_some hj
      unfold okAt at hok
      simp only [Bool.and_eq_true, List.all_eq_true, List.mem_range] at hok
      have h1 := hok.2 t ht j hlt
      rw [hj] at h1
      simp only [Bool.or_eq_true] at h1
      rcases h1 with (h1 | h1) | h1
      · rw [hd] at h1; simp at h1
      · exfalso
        apply hany
        rw [List.any_eq_true]
        exact ⟨j, by simpa using h1, by simp [dstOf, hj, hd]⟩
      · cases hlj : listed.getD j false with
        | false => rfl
        | true =>
          have := m.down j p hj hlj i (by simpa using h1)
          rw [hun] at this; cases this
  · rw [Array.getElem?_eq_none (xs := a.tmps) (by rw [m.size]; exact hge), Array.getElem?_eq_none (by rw [(frame_size a _ _).1]; exact hge)]

theorem Mid.step {n : Nat} (hB : okAll ops n = true) (hn : a0.tmps.size = n)
    {listed : Array Bool} {a : Act} (m : Mid ops a0 S listed a) {i : Nat} {o : Oper} {v : Value}
    (hi : ops[i]? = some o) (hl : i < listed.size) (hdeps : ∀ j ∈ depsOf o, listed.getD j false = true)
    (hv : match S.getD i none with | some c => v = c | none => True) : Mid ops a0 S (listed.setIfInBounds i true) (a.put o.dst v) := by
  obtain ⟨hok, hdn⟩ := okAll_at hB hi
  refine ⟨?_, ?_, fun j p hj hlj k hk => ?_, fun t ht => ?_, fun j p d' c hj hsj hdj hlj => ?_⟩
  · rw [← m.size]; cases o.dst <;> simp [Act.put]
  · rw [← m.defers]; cases o.dst <;> simp [Act.put]
  · by_cases hji : j = i
    · subst hji
      rw [hi] at hj; cases hj
      exact getD_set_true (hdeps k hk)
    · rw [getD_set_ne false (Ne.symm hji)] at hlj
      exact getD_set_true (m.down j p hj hlj k hk)
  · have hold := m.old t fun j p hj hdj => by
      have := ht j p hj hdj
      have hji : j ≠ i := fun e => by subst e; rw [getD_set_self hl] at this; cases this
      rwa [getD_set_ne false (Ne.symm hji)] at this
    cases hd : o.dst with
    | none => exact hold
    | some d =>
      have hdt : d ≠ t := fun e => by
        subst e
        have := ht i o hi hd
        rw [getD_set_self hl] at this; cases this
      simp only [Act.put]
      rw [Array.getElem?_setIfInBounds_ne hdt]
      exact hold
  · by_cases hji : j = i
    · subst hji
      rw [hi] at hj; cases hj
      rw [hsj] at hv
      have hda : d' < a.tmps.size := by rw [m.size, hn]; exact hdn d' hdj
      rw [hdj]
      simpa [Act.put, hda] using hv
    · rw [getD_set_ne false (Ne.symm hji)] at hlj
      have := m.fix j p d' c hj hsj hdj hlj
      cases hd : o.dst with
      | none => exact this
      | some d =>
        have hdd : d ≠ d' := fun e => by
          subst e
          exact okAll_ne hB hi hj (Ne.symm hji) hd hdj
        simpa [Act.put, Array.getElem?_setIfInBounds_ne hdd] using this

/-- what is given behind a step -/
theorem vals_step {n : Nat} (hB : okAll ops n = true) (hn : a0.tmps.size = n) {listed : Array Bool} {a : Act} (m : Mid ops a0 S listed a) {i : Nat} {o : Oper} {v : Value}
    (hi : ops[i]? = some o) (hl : i < listed.size) : valsOf ops (listed.setIfInBounds i true) (a.put o.dst v) = upd (valsOf ops listed a) i (gave o v) := by
  obtain ⟨_, hdn⟩ := okAll_at hB hi
  funext k
  by_cases hk : k = i
  · subst hk
    rw [upd_self]
    have e : dstOf ops k = o.dst := by simp [dstOf, hi]
    simp only [valsOf, getD_set_self hl, if_true, e]
    cases hd : o.dst with
    | none => simp [gave, hd, valOf]
    | some d =>
      have hda : d < a.tmps.size := by rw [m.size, hn]; exact hdn d hd
      simp [gave, hd, valOf, Act.put, hda]
  · rw [upd_ne _ _ hk]
    unfold valsOf
    rw [getD_set_ne false (Ne.symm hk)]
    cases hlk : listed.getD k false with
    | false => rfl
    | true =>
      simp only [if_true]
      cases he : dstOf ops k with
      | none => rfl
      | some e =>
        cases hd : o.dst with
        | none => rfl
        | some d =>
          have hne : d ≠ e := fun h => by
            subst h
            unfold dstOf at he
            cases hp : ops[k]? with
            | none => rw [hp] at he; cases he
            | some p =>
              rw [hp] at he
              exact okAll_ne hB hi hp (Ne.symm hk) hd he
          simp [valOf, Act.put, Array.getElem?_setIfInBounds_ne hne]

def chain (P : Program) (ops : Array Oper) (a0 : Act) (J : Vals → World → Prop) (S : List (Option Value)) : List Oper → Nat → Prop
  | [], _ => True
  | o :: rest, i => (∀ vs w, J vs w → vs i = none → bind ops S vs (obl P ops J S i o vs w) (depsOf o) a0) ∧ chain P ops a0 J S rest (i + 1)

theorem chain_at : ∀ (l : List Oper) (k : Nat), chain P ops a0 J S l k → ∀ i o, l[i]? = some o → ∀ vs w, J vs w → vs (k + i) = none → bind ops S vs (obl P ops J S (k + i) o vs w) (depsOf o) a0
  | [], _, _, i, o, h => by simp at h
  | p :: l, k, hc, i, o, h => by
    cases i with
    | zero => have e : p = o := by simpa using h
              subst e; exact hc.1
    | succ i =>
      have := chain_at l (k + 1) hc.2 i o (by simpa using h)
      rw [show k + (i + 1) = k + 1 + i by omega]
      exact this

theorem wpOp_of {n : Nat} (hB : okAll ops n = true) (hn : a0.tmps.size = n) (hC : chain P ops a0 J S ops.toList 0)
    {listed : Array Bool} {a : Act} {w : World} (m : Mid ops a0 S listed a) (hJ : J (valsOf ops listed a) w) (hls : listed.size = ops.size)
    {i : Nat} (hr : i ∈ Region.ready .any ops listed) {K : Act → World → Prop} (hK : ∀ a' w', Mid ops a0 S (listed.setIfInBounds i true) a' → J (valsOf ops (listed.setIfInBounds i true) a') w' → K a' w') : wpOp P ops Q i K a w := by
  obtain ⟨hun, o, hi, hall⟩ := mem_ready.1 hr
  obtain ⟨hlt, hun'⟩ := getD_of_true hun
  obtain ⟨hok, hdn⟩ := okAll_at hB hi
  have hdeps : ∀ j ∈ depsOf o, listed.getD j false = true := fun j hj => by
    unfold depsOf at hj
    obtain ⟨e, he, rfl⟩ := List.mem_map.1 hj
    rw [List.mem_filter] at he
    exact hall e (by simpa using he.1) he.2
  have hsee := sees hB m hi hun'
  have hob := chain_at ops.toList 0 hC i o (by simpa using hi) _ w hJ (by simp only [Nat.zero_add, valsOf, hun']; rfl)
  rw [Nat.zero_add] at hob
  have h1 := bind_frame m _ _ (fun j hj => ⟨by
    have hlj := hdeps j hj
    rcases Nat.lt_or_ge j listed.size with h' | h'
    · omega
    · simp [Array.getElem?_eq_none h'] at hlj, hdeps j hj⟩) hob
  generalize hb : frame ops a (depsOf o) a0 = b at *
  have hbs : b.tmps.size = a0.tmps.size := by rw [← hb]; exact (frame_size a _ _).1
  have hev := eval_of_gets (ops := ops) hsee
  have hwa := wanted_of_gets hsee
  have hsel : ∀ cs b, o.op ≠ .select cs b := fun cs b h => by
    unfold okAt at hok
    simp only [Bool.and_eq_true] at hok
    have := hok.1.2
    rw [h] at this
    cases this
  have hex : execOp b.eval o = execOp a.eval o := execOp_congr o hsel hev
  have h2 := h1 (fun a' w' => ∃ v, a' = b.put o.dst v ∧ (match S.getD i none with | some c => v = c | none => True) ∧ J (upd (valsOf ops listed a) i (gave o v)) w') (fun v w' hv hj => ⟨v, rfl, hv, hj⟩)
  have fin : ∀ v w', (∃ u, b.put o.dst v = b.put o.dst u ∧ (match S.getD i none with | some c => u = c | none => True) ∧ J (upd (valsOf ops listed a) i (gave o u)) w') → K (a.put o.dst v) w' := fun v w' ⟨u, e, he, hu⟩ => by
    have eu : a.put o.dst v = a.put o.dst u := by
      cases hd : o.dst with
      | none => rfl
      | some d =>
        rw [hd] at e
        rw [put_inj (by rw [hbs, hn]; exact hdn d hd) e]
    rw [eu]
    refine hK _ _ (m.step hB hn hi hlt hdeps he) ?_
    rw [vals_step hB hn m hi hlt]; exact hu
  unfold wpOp
  simp only [hi]
  rw [hwa] at h2
  split
  · rename_i hw
    rw [if_pos hw] at h2
    refine .inl ?_
    unfold Oper.wp at *
    rw [hex] at h2
    generalize (execOp a.eval o).run P w = r at *
    cases r with
    | ok x w' =>
      cases x <;> simp only [Oper.upon] at h2 ⊢
      case value v => exact fin v w' h2
      case skip => exact fin _ w' h2
      case defer df =>
        exfalso
        obtain ⟨v, e, _⟩ := h2
        have := congrArg Act.defers e
        cases hd : o.dst <;> simp [hd, Act.put] at this
      case enter f args =>
        refine Calls.mono h2 fun e w'' he => ?_
        cases e with
        | returned v => exact fin v w'' he
        | panicked c => exact he.elim
        | outgrown => obtain ⟨_, _, h⟩ := he; exact h.elim
      case row row args =>
        exact Rows.mono h2 fun v w'' he => fin v w'' he
    | halt x w' => cases x <;> simp only [Oper.upon] at h2
  · rename_i hw
    rw [if_neg hw] at h2
    exact fin _ w h2

theorem wpAny_of {n : Nat} (hB : okAll ops n = true) (hn : a0.tmps.size = n) (hC : chain P ops a0 J S ops.toList 0)
    (hend : ∀ listed a w, listed.size = ops.size → Mid ops a0 S listed a → J (valsOf ops listed a) w → Region.ready .any ops listed = [] → Q .normal a w) :
    ∀ (fuel : Nat) (listed : Array Bool) (a : Act) (w : World), listed.size = ops.size → Mid ops a0 S listed a → J (valsOf ops listed a) w →
      (listed.toList.filter (· == false)).length ≤ fuel → wpAny P .any ops Q fuel listed a w := by
  intro fuel
  induction fuel with
  | zero =>
    intro listed a w hls m hJ hf
    have hr : Region.ready .any ops listed = [] := by
      cases hr : Region.ready .any ops listed with
      | nil => rfl
      | cons x xs =>
        exfalso
        have hx : x ∈ Region.ready .any ops listed := by rw [hr]; simp
        obtain ⟨hun, _⟩ := mem_ready.1 hx
        obtain ⟨hlt, hun'⟩ := getD_of_true hun
        have : false ∈ listed.toList.filter (· == false) := by
          rw [List.mem_filter]
          refine ⟨?_, rfl⟩
          have e : listed[x] = false := by simpa [hlt] using hun'
          rw [← e]; simp
        have h0 : listed.toList.filter (· == false) = [] := List.length_eq_zero_iff.1 (by omega)
        rw [h0] at this; cases this
    exact ⟨hr, hend listed a w hls m hJ hr⟩
  | succ fuel ih =>
    intro listed a w hls m hJ hf
    refine ⟨fun hr => hend listed a w hls m hJ hr, fun i hi => ?_⟩
    refine wpOp_of hB hn hC m hJ hls hi fun a' w' m' hJ' => ih _ _ _ (by simpa using hls) m' hJ' ?_
    obtain ⟨hun, _⟩ := mem_ready.1 hi
    obtain ⟨hlt, hun'⟩ := getD_of_true hun
    have e : listed[i] = false := by simpa [hlt] using hun'
    have key : ∀ (l : List Bool) (k : Nat), l[k]? = some false → ((l.set k true).filter (· == false)).length + 1 = (l.filter (· == false)).length := by
      intro l
      induction l with
      | nil => intro k h; simp at h
      | cons x l ihl =>
        intro k h
        cases k with
        | zero => simp at h; subst h; simp
        | succ k =>
          simp only [List.getElem?_cons_succ] at h
          have := ihl k h
          simp only [List.set_cons_succ, List.filter_cons]; split <;> (try simp only [List.length_cons]) <;> omega
    have h1 := key listed.toList i (by simp [hlt, e])
    simp only [Array.toList_setIfInBounds]
    omega

/-- THE LAW. -/
theorem wp_region {id n : Nat} {l : List Oper} (J : Vals → World → Prop) (S : List (Option Value)) (hm : P.follows .mixedOrders = true) (hB : okAll l.toArray n = true) (hn : a0.tmps.size = n)
    (h0 : J (fun _ => none) w0.drew) (hC : chain P l.toArray a0 J S l 0)
    (hE : ∀ vs w, J vs w → bind l.toArray S vs (fun a => Q .normal a w) (List.range l.length) a0) : (Code.region id l.toArray true).wp P Q a0 w0 := by
  have hdeps : ∀ i o, l.toArray[i]? = some o → ∀ j ∈ depsOf o, j < i := fun i o hi j hj => by
    obtain ⟨hok, _⟩ := okAll_at hB hi
    unfold okAt at hok
    simp only [Bool.and_eq_true, List.all_eq_true] at hok
    simpa using hok.1.1 j hj
  have hsz : l.toArray.size = l.length := by simp
  have no : ∀ i, (Array.replicate l.toArray.size false).getD i false = false := fun i => by
    rcases Nat.lt_or_ge i l.toArray.size with h' | h'
    · rw [Array.getD_eq_getD_getElem?, Array.getElem?_replicate]; split <;> rfl
    · rw [Array.getD_eq_getD_getElem?, Array.getElem?_replicate]; split <;> rfl
  refine wp_region_any hm (wpAny_of hB hn hC (fun listed a w hls m hJ hr => ?_) _ _ _ _ (by simp) ?_ ?_ ?_)
  · have hall := all_listed hdeps hls hr
    have hd := bind_frame m (List.range l.length) a0 (fun j hj => ⟨by simpa using hj, hall j (by simpa using hj)⟩) (hE _ w hJ)
    have e : frame l.toArray a (List.range l.length) a0 = a := by
      obtain ⟨e1, e2⟩ := frame_size (ops := l.toArray) a (List.range l.length) a0
      have e3 : (frame l.toArray a (List.range l.length) a0).tmps = a.tmps := by
        refine Array.ext_getElem? fun t => ?_
        rcases Nat.lt_or_ge t a0.tmps.size with hlt | hge
        · rw [frame_get a t _ a0 hlt]
          by_cases hany : ((List.range l.length).any fun j => dstOf l.toArray j == some t) = true
          · rw [if_pos hany]
            have : t < a.tmps.size := by rw [m.size]; exact hlt
            simp [valOf, this]
          · rw [if_neg hany]
            symm
            refine m.old t fun j p hj hd => ?_
            exfalso
            apply hany
            rw [List.any_eq_true]
            exact ⟨j, by have := lt_of_some hj; simpa using this, by simp only [dstOf, hj, Option.bind_some, hd]; simp⟩
        · rw [Array.getElem?_eq_none (xs := a.tmps) (by rw [m.size]; exact hge), Array.getElem?_eq_none (by rw [e1]; exact hge)]
      have e4 : (frame l.toArray a (List.range l.length) a0).defers = a.defers := e2.trans m.defers.symm
      generalize frame l.toArray a (List.range l.length) a0 = b at *
      cases b; cases a; simp_all
    rw [e] at hd
    exact hd
  · exact ⟨rfl, rfl, fun i o _ hl => (by rw [no i] at hl; cases hl), fun t _ => rfl, fun i o d c _ _ _ hl => (by rw [no i] at hl; cases hl)⟩
  · have e : valsOf l.toArray (Array.replicate l.toArray.size false) a0 = fun _ => none := by
      funext i; simp only [valsOf, no i]; rfl
    rw [e]; exact h0
  · simp
end
end RJ
end Go.Proofs.Ytbnpldilkkhgmaa
