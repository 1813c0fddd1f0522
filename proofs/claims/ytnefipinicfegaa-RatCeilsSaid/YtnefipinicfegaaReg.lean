/-
  A region of operations, in whatever order its edges allow: one obligation an operation.
  Plain: no program is named here.
-/
import Derived.WalkKit
import Derived.Test.YtnefipinicfegaaBase
namespace Go.Proofs.Ytnefipinicfegaa
open Go.RowKit
set_option linter.unusedVariables false
set_option linter.unusedSimpArgs false

/-- The frame with each operation's slot filled. -/
def fillL (f : Nat → Value) : List Oper → Nat → Array Value → Array Value
  | [], _, t => t
  | o :: l, k, t => fillL f l (k + 1) (match o.dst with | some d => t.setIfInBounds d (f k) | none => t)

def fillR (ops : Array Oper) (tmps : Array Value) (f : Nat → Value) : Array Value := fillL f ops.toList 0 tmps

def dstFresh (d : Option Tmp) (l : List Oper) : Bool :=
  match d with
  | none => true
  | some d => l.all fun o => o.dst != some d

def dstsOkL (n : Nat) : List Oper → Bool
  | [] => true
  | o :: l => (match o.dst with | some d => decide (d < n) | none => true) && dstFresh o.dst l && dstsOkL n l

def edgesOkL : List Oper → Nat → Bool
  | [], _ => true
  | o :: l, k => (o.after.toList.all fun e => !Region.binds .any e || decide (e.on < k)) && edgesOkL l (k + 1)

def guardsOk (ops : Array Oper) : Bool :=
  ops.toList.all fun o => match o.guard with
    | none => true
    | some (j, _) => ((ops[j]?).bind (·.dst)).isSome

def regOk (ops : Array Oper) (n : Nat) : Bool := dstsOkL n ops.toList && edgesOkL ops.toList 0 && guardsOk ops

theorem fillL_size (f : Nat → Value) : ∀ (l : List Oper) (k : Nat) (t : Array Value), (fillL f l k t).size = t.size
  | [], _, _ => rfl
  | o :: l, k, t => by
    rw [fillL, fillL_size f l]
    cases o.dst <;> simp

theorem fillL_other (f : Nat → Value) (d : Nat) : ∀ (l : List Oper) (k : Nat) (t : Array Value), (l.all fun o => o.dst != some d) = true → (fillL f l k t)[d]? = t[d]?
  | [], _, _, _ => rfl
  | o :: l, k, t, h => by
    simp only [List.all_cons, Bool.and_eq_true] at h
    rw [fillL, fillL_other f d l _ _ h.2]
    cases ho : o.dst with
    | none => rfl
    | some e =>
      have hne : e ≠ d := by
        have := h.1
        rw [ho] at this
        simpa using this
      simp [Array.getElem?_setIfInBounds_ne hne]

theorem fillL_congr (f g : Nat → Value) : ∀ (l : List Oper) (k : Nat) (t : Array Value), (∀ i, k ≤ i → i < k + l.length → f i = g i) → fillL f l k t = fillL g l k t
  | [], _, _, _ => rfl
  | o :: l, k, t, h => by
    rw [fillL, fillL, h k (Nat.le_refl _) (by simp)]
    exact fillL_congr f g l _ _ (fun i h1 h2 => h i (by omega) (by simp only [List.length_cons]; omega))

theorem fillL_get (f : Nat → Value) : ∀ (l : List Oper) (k : Nat) (t : Array Value), dstsOkL t.size l = true → ∀ i o d, l[i]? = some o → o.dst = some d → (fillL f l k t)[d]? = some (f (k + i))
  | [], _, _, _, i, o, d, h, _ => by simp at h
  | x :: l, k, t, hok, i, o, d, h, hd => by
    simp only [dstsOkL, Bool.and_eq_true] at hok
    obtain ⟨⟨h1, h2⟩, h3⟩ := hok
    cases i with
    | zero =>
      simp only [List.getElem?_cons_zero, Option.some.injEq] at h
      subst h
      rw [hd] at h1 h2
      rw [fillL, fillL_other f d l _ _ h2, hd]
      simp at h1
      simp [h1]
    | succ i =>
      simp only [List.getElem?_cons_succ] at h
      rw [fillL]
      have hs : (match x.dst with | some d => t.setIfInBounds d (f k) | none => t).size = t.size := by cases x.dst <;> simp
      rw [fillL_get f l (k + 1) _ (by rw [hs]; exact h3) i o d h hd]
      congr 2
      omega

/-- One slot more is written. -/
theorem fillL_put (f : Nat → Value) (v : Value) : ∀ (l : List Oper) (k : Nat) (t : Array Value), dstsOkL t.size l = true → ∀ i o, l[i]? = some o →
    (match o.dst with | some d => (fillL f l k t).setIfInBounds d v | none => fillL f l k t) = fillL (fun j => if j = k + i then v else f j) l k t
  | [], _, _, _, i, o, h => by simp at h
  | x :: l, k, t, hok, i, o, h => by
    have hok' := hok
    simp only [dstsOkL, Bool.and_eq_true] at hok
    obtain ⟨⟨h1, h2⟩, h3⟩ := hok
    cases i with
    | zero =>
      simp only [List.getElem?_cons_zero, Option.some.injEq] at h
      subst h
      have hc : fillL (fun j => if j = k + 0 then v else f j) l (k + 1) (match x.dst with | some d => t.setIfInBounds d v | none => t) = fillL f l (k + 1) (match x.dst with | some d => t.setIfInBounds d v | none => t) :=
        fillL_congr _ _ _ _ _ (fun j hj _ => by rw [if_neg (by omega)])
      rw [fillL, fillL]
      simp only [Nat.add_zero, if_true] at hc ⊢
      rw [hc]
      cases hx : x.dst with
      | none => rfl
      | some d =>
        simp only
        rw [hx] at h2
        refine Array.ext_getElem? fun j => ?_
        by_cases hj : d = j
        · subst hj
          rw [fillL_other f d l _ _ h2]
          have := fillL_size f l (k + 1) (t.setIfInBounds d (f k))
          simp only [Array.getElem?_setIfInBounds_self, this, Array.size_setIfInBounds]
        · rw [Array.getElem?_setIfInBounds_ne hj]
          exact fillL_agree f l (k + 1) _ _ j (by simp [Array.getElem?_setIfInBounds_ne hj]) (by simp)
    | succ i =>
      simp only [List.getElem?_cons_succ] at h
      have hs : (match x.dst with | some d => t.setIfInBounds d (f k) | none => t).size = t.size := by cases x.dst <;> simp
      have ih := fillL_put f v l (k + 1) (match x.dst with | some d => t.setIfInBounds d (f k) | none => t) (by rw [hs]; exact h3) i o h
      rw [fillL, fillL, ih]
      have e1 : k + 1 + i = k + (i + 1) := by omega
      rw [e1]
      rw [if_neg (show ¬ k = k + (i + 1) by omega)]
where
  fillL_agree (f : Nat → Value) : ∀ (l : List Oper) (k : Nat) (t u : Array Value) (j : Nat), t[j]? = u[j]? → t.size = u.size → (fillL f l k t)[j]? = (fillL f l k u)[j]?
    | [], _, _, _, _, h, _ => h
    | o :: l, k, t, u, j, h, hs => by
      rw [fillL, fillL]
      refine fillL_agree f l (k + 1) _ _ j ?_ ?_
      · cases o.dst with
        | none => exact h
        | some d =>
          by_cases hj : d = j
          · subst hj
            rw [Array.getElem?_setIfInBounds_self, Array.getElem?_setIfInBounds_self, hs]
          · simp [Array.getElem?_setIfInBounds_ne hj, h]
      · cases o.dst <;> simp [hs]

theorem fillL_old (t : Array Value) (f : Nat → Value) : ∀ (l : List Oper) (k : Nat) (u : Array Value), u = t → (∀ i o d, l[i]? = some o → o.dst = some d → f (k + i) = t.getD d undef) → fillL f l k u = t
  | [], _, _, hu, _ => hu
  | o :: l, k, u, hu, h => by
    subst hu
    rw [fillL]
    refine fillL_old u f l (k + 1) _ ?_ (fun i o' d hi hd => by rw [← h (i + 1) o' d (by simpa using hi) hd]; congr 1; omega)
    cases ho : o.dst with
    | none => rfl
    | some d =>
      have := h 0 o d rfl ho
      simp only [Nat.add_zero] at this
      rw [this]
      refine Array.ext_getElem? fun j => ?_
      by_cases hj : d = j
      · subst hj
        rw [Array.getElem?_setIfInBounds_self]
        split
        · rename_i hlt
          simp [hlt]
        · rename_i hlt
          simp [Array.getElem?_eq_none (Nat.le_of_not_lt hlt)]
      · simp [Array.getElem?_setIfInBounds_ne hj]

theorem edgesOkL_at : ∀ (l : List Oper) (k : Nat), edgesOkL l k = true → ∀ i o, l[i]? = some o → ∀ e ∈ o.after, Region.binds .any e = true → e.on < k + i
  | [], _, _, i, o, h => by simp at h
  | x :: l, k, hok, i, o, h => by
    simp only [edgesOkL, Bool.and_eq_true] at hok
    cases i with
    | zero =>
      simp only [List.getElem?_cons_zero, Option.some.injEq] at h
      subst h
      intro e he hb
      have := List.all_eq_true.1 hok.1 e (Array.mem_toList_iff.2 he)
      simpa [hb] using this
    | succ i =>
      intro e he hb
      have := edgesOkL_at l (k + 1) hok.2 i o (by simpa using h) e he hb
      omega

theorem Oper.wp_noQ {P : Program} {o : Oper} {a : Act} {w : World} {K : Act → World → Prop} {Q : Exit → Act → World → Prop} (h : o.wp P a w K (fun _ _ _ => False)) : o.wp P a w K Q := by
  unfold Oper.wp at *
  generalize (execOp a.eval o).run P w = r at *
  cases r with
  | ok n w' =>
    cases n <;> simp only [Oper.upon] at h ⊢ <;> first
      | exact h
      | exact Calls.mono h (fun e w'' he => by
          cases e with
          | returned v => exact he
          | panicked c => exact he.elim
          | outgrown => obtain ⟨_, _, hf⟩ := he; exact hf.elim)
  | halt x w' => cases x <;> simp only [Oper.upon] at h ⊢

/-- What an operation leaves. -/
def OpFin (a : Act) (dst : Option Tmp) (w : World) (R : World → World → Prop) (post : Value → World → Prop) (a' : Act) (w' : World) : Prop := ∃ v, a' = a.put dst v ∧ R w w' ∧ post v w'
/-- What is owed for one operation. -/
def OpGoal (P : Program) (o : Oper) (a : Act) (f : Nat → Value) (w : World) (R : World → World → Prop) (post : Value → World → Prop) : Prop :=
  match o.guard with
  | none => o.wp P a w (OpFin a o.dst w R post) (fun _ _ _ => False)
  | some (j, want) =>
    (f j = .bool want → o.wp P a w (OpFin a o.dst w R post) (fun _ _ _ => False)) ∧ (f j ≠ .bool want → post undef w)

section
variable {P : Program} {id : Nat} {ops : Array Oper} {Q : Exit → Act → World → Prop} {tmps : Array Value} {df : List Deferred} {w : World}
  {G : World → World → Prop} {G0 : Nat → World → World → Prop} {R : Nat → World → World → Prop} {post : Nat → Value → World → Prop} {D : (Nat → Bool) → (Nat → Value) → World → Prop}

theorem OpGoal.mono {P : Program} {o : Oper} {a : Act} {f : Nat → Value} {w : World} {R R' : World → World → Prop} {p p' : Value → World → Prop} (hR : ∀ w', R w w' → R' w w') (hp : ∀ v w', R w w' → p v w' → p' v w') (hu : p undef w → p' undef w) (h : OpGoal P o a f w R p) : OpGoal P o a f w R' p' := by
  have key : ∀ {Q : Exit → Act → World → Prop}, o.wp P a w (OpFin a o.dst w R p) Q → o.wp P a w (OpFin a o.dst w R' p') Q := fun h => Oper.wp_mono (fun a' w' ⟨v, h1, h2, h3⟩ => ⟨v, h1, hR _ h2, hp _ _ h2 h3⟩) h
  unfold OpGoal at h ⊢
  split at h
  · exact key h
  · exact ⟨fun hc => key (h.1 hc), fun hc => hu (h.2 hc)⟩

/-- The state of a region in which some operations have run. -/
structure RegInv (ops : Array Oper) (tmps : Array Value) (df : List Deferred) (w : World) (G : World → World → Prop) (G0 : Nat → World → World → Prop) (post : Nat → Value → World → Prop) (D : (Nat → Bool) → (Nat → Value) → World → Prop) (listed : Nat → Bool) (a : Act) (w1 : World) (f : Nat → Value) : Prop where
  act : a = ⟨fillR ops tmps f, df⟩
  grown : G w w1
  pre : ∀ s, listed s = false → G0 s w w1
  done : ∀ i, i < ops.size → listed i = true → post i (f i) w1
  old : ∀ i o d, listed i = false → ops[i]? = some o → o.dst = some d → f i = tmps.getD d undef
  joint : D listed f w1

/-- s runs behind i: i itself, or by at most n edges. -/
def behind (ops : Array Oper) (i : Nat) : Nat → Nat → Bool
  | 0, s => i == s
  | n + 1, s => i == s || ((ops[s]?).any fun os => os.after.toList.any fun e => Region.binds .any e && behind ops i n e.on)
theorem behind_listed {ops : Array Oper} {listed : Nat → Bool} (hcons : ∀ j oj, ops[j]? = some oj → listed j = true → ∀ e ∈ oj.after, Region.binds .any e = true → listed e.on = true) (i : Nat) :
    ∀ (n s : Nat), behind ops i n s = true → listed s = true → listed i = true
  | 0, s, h, hl => by
    have : i = s := by simpa [behind] using h
    rw [this]; exact hl
  | n + 1, s, h, hl => by
    simp only [behind, Bool.or_eq_true, beq_iff_eq] at h
    rcases h with h | h
    · rw [h]; exact hl
    · cases hos : ops[s]? with
      | none => rw [hos] at h; cases h
      | some os =>
        rw [hos] at h
        obtain ⟨e, hem, heb⟩ := List.any_eq_true.1 h
        simp only [Bool.and_eq_true] at heb
        exact behind_listed hcons i n e.on heb.2 (hcons s os hos hl e (Array.mem_toList_iff.1 hem) heb.1)

/-- s runs behind i, by edges. -/
inductive Anc (ops : Array Oper) (i : Nat) : Nat → Prop
  | self : Anc ops i i
  | edge {s : Nat} {os : Oper} {e : Edge} : ops[s]? = some os → e ∈ os.after → Region.binds .any e = true → Anc ops i e.on → Anc ops i s
theorem Anc.listed {ops : Array Oper} {listed : Nat → Bool} (hcons : ∀ j oj, ops[j]? = some oj → listed j = true → ∀ e ∈ oj.after, Region.binds .any e = true → listed e.on = true) {i s : Nat} (h : Anc ops i s) (hl : listed s = true) : listed i = true := by
  induction h with
  | self => exact hl
  | edge ho he hb _ ih => exact ih (hcons _ _ ho hl _ he hb)
theorem behind_anc {ops : Array Oper} {i : Nat} : ∀ (n s : Nat), behind ops i n s = true → Anc ops i s
  | 0, s, h => by
    have : i = s := by simpa [behind] using h
    rw [this]; exact .self
  | n + 1, s, h => by
    simp only [behind, Bool.or_eq_true, beq_iff_eq] at h
    rcases h with h | h
    · rw [h]; exact .self
    · cases hos : ops[s]? with
      | none => rw [hos] at h; cases h
      | some os =>
        rw [hos] at h
        obtain ⟨e, hem, heb⟩ := List.any_eq_true.1 h
        simp only [Bool.and_eq_true] at heb
        exact .edge hos (Array.mem_toList_iff.1 hem) heb.1 (behind_anc n e.on heb.2)
theorem Anc.trans {ops : Array Oper} {i j s : Nat} (h : Anc ops i j) (k : Anc ops j s) : Anc ops i s := by
  induction k with
  | self => exact h
  | edge ho he hb _ ih => exact .edge ho he hb ih

/-- What each operation owes, whatever has run. -/
def StepsOk (P : Program) (ops : Array Oper) (tmps : Array Value) (df : List Deferred) (w : World) (G : World → World → Prop) (G0 : Nat → World → World → Prop) (R : Nat → World → World → Prop) (post : Nat → Value → World → Prop) (D : (Nat → Bool) → (Nat → Value) → World → Prop) : Prop :=
  ∀ i o, ops[i]? = some o → ∀ (listed : Nat → Bool) (f : Nat → Value) (w1 : World), listed i = false → (∀ j, Anc ops j i → j ≠ i → listed j = true) → D listed f w1 → G w w1 →
    (∀ s, Anc ops i s → G0 s w w1) →
    (∀ e ∈ o.after, Region.binds .any e = true → post e.on (f e.on) w1) →
    (∀ j oj d, ops[j]? = some oj → oj.dst = some d → (oj.after.toList.any fun e => Region.binds .any e && e.on == i) = true → f j = tmps.getD d undef) →
    OpGoal P o ⟨fillR ops tmps f, df⟩ f w1 (R i) (fun v w2 => post i v w2 ∧ D (fun j => if j = i then true else listed j) (fun j => if j = i then v else f j) w2)

theorem RegInv.step (hok : regOk ops tmps.size = true) (hGR : ∀ i w1 w2, G w w1 → R i w1 w2 → G w w2) (hGR0 : ∀ s i w1 w2, i ≠ s → G0 s w w1 → R i w1 w2 → G0 s w w2)
    (hmono : ∀ i j v w1 w2, i ≠ j → G w w1 → R j w1 w2 → post i v w1 → post i v w2)
    (hstep : StepsOk P ops tmps df w G G0 R post D)
    {listed : Nat → Bool} {a : Act} {w1 : World} {f : Nat → Value} (hI : RegInv ops tmps df w G G0 post D listed a w1 f)
    {i : Nat} {o : Oper} (ho : ops[i]? = some o) (hi : listed i = false) (hedges : ∀ e ∈ o.after, Region.binds .any e = true → listed e.on = true)
    (hcons : ∀ j oj, ops[j]? = some oj → listed j = true → ∀ e ∈ oj.after, Region.binds .any e = true → listed e.on = true)
    {K : Act → World → Prop} (hK : ∀ a' w' f', RegInv ops tmps df w G G0 post D (fun j => if j = i then true else listed j) a' w' f' → K a' w') :
    wpOp P ops Q i K a w1 := by
  have hok' := hok
  simp only [regOk, Bool.and_eq_true] at hok
  obtain ⟨⟨hd, he⟩, hg⟩ := hok
  have hio : ops.toList[i]? = some o := by simpa using ho
  have hlt : i < ops.size := (Array.getElem?_eq_some_iff.1 ho).1
  have hposts : ∀ e ∈ o.after, Region.binds .any e = true → post e.on (f e.on) w1 := fun e hm hb => by
    have hlt' := edgesOkL_at ops.toList 0 he i o hio e hm hb
    exact hI.done e.on (by omega) (hedges e hm hb)
  have hlate : ∀ j oj d, ops[j]? = some oj → oj.dst = some d → (oj.after.toList.any fun e => Region.binds .any e && e.on == i) = true → f j = tmps.getD d undef := by
    intro j oj d hj hdj hany
    obtain ⟨e, hem, heb⟩ := List.any_eq_true.1 hany
    simp only [Bool.and_eq_true, beq_iff_eq] at heb
    refine hI.old j oj d ?_ hj hdj
    cases hl : listed j with
    | false => rfl
    | true =>
      have := hcons j oj hj hl e (Array.mem_toList_iff.1 hem) heb.1
      rw [heb.2, hi] at this
      cases this
  have hpre : ∀ s, Anc ops i s → G0 s w w1 := by
    intro s h
    refine hI.pre s ?_
    cases hl : listed s with
    | false => rfl
    | true =>
      have := Anc.listed hcons h hl
      rw [hi] at this
      cases this
  have hbefore : ∀ j, Anc ops j i → j ≠ i → listed j = true := by
    intro j hj hne
    cases hj with
    | self => exact absurd rfl hne
    | edge hos he hb hanc =>
      rw [ho] at hos
      cases hos
      exact Anc.listed hcons hanc (hedges _ he hb)
  have hgoal := hstep i o ho listed f w1 hi hbefore hI.joint hI.grown hpre hposts hlate
  have hput : ∀ v, (⟨fillR ops tmps f, df⟩ : Act).put o.dst v = ⟨fillR ops tmps (fun j => if j = i then v else f j), df⟩ := by
    intro v
    have := fillL_put f v ops.toList 0 tmps hd i o hio
    simp only [Nat.zero_add] at this
    unfold fillR
    rw [← this]
    cases o.dst <;> rfl
  have next : ∀ v w2, G w w2 → (∀ s, i ≠ s → listed s = false → G0 s w w2) → (∀ j, j < ops.size → listed j = true → j ≠ i → post j (f j) w2) → (post i v w2 ∧ D (fun j => if j = i then true else listed j) (fun j => if j = i then v else f j) w2) → K ((⟨fillR ops tmps f, df⟩ : Act).put o.dst v) w2 := by
    intro v w2 hGw hpw hothers hpi
    refine hK _ _ (fun j => if j = i then v else f j) ⟨hput v, hGw, ?_, ?_, ?_, hpi.2⟩
    · intro s hl
      by_cases hsi : s = i
      · subst hsi; simp at hl
      · simp only [hsi, if_false] at hl
        exact hpw s (fun e => hsi e.symm) hl
    · intro j hj hl
      by_cases hji : j = i
      · subst hji
        simpa using hpi.1
      · simp only [hji, if_false] at hl ⊢
        exact hothers j hj hl hji
    · intro j oj d hl hj hdj
      by_cases hji : j = i
      · subst hji
        simp at hl
      · simp only [hji, if_false] at hl ⊢
        exact hI.old j oj d hl hj hdj
  have run : o.wp P ⟨fillR ops tmps f, df⟩ w1 (OpFin ⟨fillR ops tmps f, df⟩ o.dst w1 (R i) (fun v w2 => post i v w2 ∧ D (fun j => if j = i then true else listed j) (fun j => if j = i then v else f j) w2)) (fun _ _ _ => False) → o.wp P a w1 K Q := by
    intro h
    rw [hI.act]
    refine Oper.wp_noQ (Oper.wp_mono (fun a' w' h' => ?_) h)
    obtain ⟨v, rfl, hR, hp⟩ := h'
    exact next v w' (hGR i w1 w' hI.grown hR) (fun s hne hl => hGR0 s i w1 w' hne (hI.pre s hl) hR) (fun j hj hl hji => hmono j i (f j) w1 w' hji hI.grown hR (hI.done j hj hl)) hp
  unfold wpOp
  simp only [ho]
  unfold OpGoal at hgoal
  cases hgd : o.guard with
  | none =>
    simp only [hgd] at hgoal
    rw [if_pos (by simp [Region.wanted, hgd])]
    exact .inl (run hgoal)
  | some gw =>
    obtain ⟨j, want⟩ := gw
    simp only [hgd] at hgoal
    have hgj := List.all_eq_true.1 hg o (List.mem_of_getElem? hio)
    simp only [hgd] at hgj
    obtain ⟨d, hdj⟩ := Option.isSome_iff_exists.1 hgj
    obtain ⟨oj, hoj, hdoj⟩ := Option.bind_eq_some_iff.1 hdj
    have hslot : (fillR ops tmps f)[d]? = some (f j) := by
      have := fillL_get f ops.toList 0 tmps hd j oj d (by simpa using hoj) hdoj
      simpa [fillR] using this
    have hy : Region.wanted o (yielded ops a.tmps) = true ↔ f j = .bool want := by
      rw [hI.act]
      simp only [Region.wanted, hgd, yielded, hdj, Option.bind_some, hslot]
      cases hf : f j <;> simp
    by_cases hc : f j = .bool want
    · rw [if_pos (hy.2 hc)]
      exact .inl (run (hgoal.1 hc))
    · rw [if_neg (fun h => hc (hy.1 h)), hI.act]
      exact next undef w1 hI.grown (fun s _ hl => hI.pre s hl) (fun j hj hl _ => hI.done j hj hl) (hgoal.2 hc)

theorem wpAny_posts (hok : regOk ops tmps.size = true) (hGR : ∀ i w1 w2, G w w1 → R i w1 w2 → G w w2) (hGR0 : ∀ s i w1 w2, i ≠ s → G0 s w w1 → R i w1 w2 → G0 s w w2)
    (hmono : ∀ i j v w1 w2, i ≠ j → G w w1 → R j w1 w2 → post i v w1 → post i v w2)
    (hstep : StepsOk P ops tmps df w G G0 R post D)
    (hend : ∀ f w1, G w w1 → (∀ i, i < ops.size → post i (f i) w1) → (∃ listed : Nat → Bool, (∀ i, i < ops.size → listed i = true) ∧ D listed f w1) → Q .normal ⟨fillR ops tmps f, df⟩ w1) :
    ∀ (fuel : Nat) (listed : Array Bool) (a : Act) (w1 : World) (f : Nat → Value), listed.size = ops.size → (List.range ops.size).countP (fun i => !listed.getD i true) ≤ fuel →
      (∀ j oj, ops[j]? = some oj → listed.getD j false = true → ∀ e ∈ oj.after, Region.binds .any e = true → listed.getD e.on false = true) →
      RegInv ops tmps df w G G0 post D (fun i => listed.getD i false) a w1 f → wpAny P .any ops Q fuel listed a w1 := by
  have hok' := hok
  simp only [regOk, Bool.and_eq_true] at hok'
  have hedges := edgesOkL_at ops.toList 0 hok'.1.2
  -- where nothing is ready all has run
  have all_of_ready : ∀ listed : Array Bool, listed.size = ops.size → Region.ready .any ops listed = [] → ∀ i, i < ops.size → listed.getD i false = true := by
    intro listed hsz hr i
    induction i using Nat.strongRecOn with
    | _ i ih =>
      intro hi
      cases hl : listed.getD i false with
      | true => rfl
      | false =>
        have hmem : i ∈ Region.ready .any ops listed := by
          rw [mem_ready]
          have hil : i < listed.size := by omega
          refine ⟨by simpa [hil] using hl, ops[i], by simp [hi], fun e he hb => ?_⟩
          have := hedges i ops[i] (by simp [hi]) e he hb
          exact ih e.on (by omega) (by omega)
        rw [hr] at hmem
        cases hmem
  intro fuel
  induction fuel with
  | zero =>
    intro listed a w1 f hsz hc hcons hI
    have hall : ∀ i, i < ops.size → listed.getD i true = true := by
      intro i hi
      have h0 : (List.range ops.size).countP (fun i => !listed.getD i true) = 0 := by omega
      have := List.countP_eq_zero.1 h0 i (List.mem_range.2 hi)
      simpa using this
    have hr : Region.ready .any ops listed = [] := by
      refine List.eq_nil_iff_forall_not_mem.2 fun i hi => ?_
      obtain ⟨h0, o, ho, _⟩ := mem_ready.1 hi
      have hlt : i < ops.size := (Array.getElem?_eq_some_iff.1 ho).1
      rw [hall i hlt] at h0
      cases h0
    refine ⟨hr, ?_⟩
    rw [hI.act]
    exact hend f w1 hI.grown (fun i hi => hI.done i hi (all_of_ready listed hsz hr i hi)) ⟨_, fun i hi => all_of_ready listed hsz hr i hi, hI.joint⟩
  | succ fuel ih =>
    intro listed a w1 f hsz hc hcons hI
    refine ⟨fun hr => by rw [hI.act]; exact hend f w1 hI.grown (fun i hi => hI.done i hi (all_of_ready listed hsz hr i hi)) ⟨_, fun i hi => all_of_ready listed hsz hr i hi, hI.joint⟩, fun i hi => ?_⟩
    obtain ⟨h0, o, ho, hall⟩ := mem_ready.1 hi
    have hlt : i < ops.size := (Array.getElem?_eq_some_iff.1 ho).1
    have hil : i < listed.size := by omega
    have h0' : listed.getD i false = false := by simpa [hil] using h0
    refine RegInv.step hok hGR hGR0 hmono hstep hI ho h0' hall hcons fun a' w' f' hI' => ?_
    refine ih (listed.setIfInBounds i true) a' w' f' (by simpa using hsz) ?_ ?_ ?_
    · have : (List.range ops.size).countP (fun j => !(listed.setIfInBounds i true).getD j true) < (List.range ops.size).countP (fun j => !listed.getD j true) := by
        refine countP_lt _ _ _ (fun j hj h => ?_) i (List.mem_range.2 hlt) (by simpa using h0) (by simp [hil])
        by_cases hji : i = j
        · subst hji
          simpa using h0
        · rw [getD_set_ne true hji] at h
          exact h
      omega
    · intro j oj hj hl e he hb
      by_cases hji : i = j
      · subst hji
        rw [ho] at hj
        cases hj
        exact getD_set_true (hall e he hb)
      · rw [getD_set_ne false hji] at hl
        exact getD_set_true (hcons j oj hj hl e he hb)
    · have : (fun j => (listed.setIfInBounds i true).getD j false) = (fun j => if j = i then true else listed.getD j false) := by
        funext j
        by_cases hji : j = i
        · subst hji
          simp [hil]
        · rw [getD_set_ne false (Ne.symm hji), if_neg hji]
      rw [this]
      exact hI'
where
  countP_lt (p q : Nat → Bool) (l : List Nat) (h : ∀ j ∈ l, p j = true → q j = true) (i : Nat) (hi : i ∈ l) (hq : q i = true) (hp : p i = false) : l.countP p < l.countP q := by
    induction l with
    | nil => cases hi
    | cons x l ih =>
      simp only [List.countP_cons]
      have hle : l.countP p ≤ l.countP q := List.countP_mono_left fun j hj hp => h j (List.mem_cons_of_mem _ hj) hp
      rcases List.mem_cons.1 hi with rfl | hi
      · simp [hq, hp]
        omega
      · have := ih (fun j hj => h j (List.mem_cons_of_mem _ hj)) hi
        have hx := h x (List.mem_cons_self ..)
        cases hpx : p x
        · simp; omega
        · simp [hx hpx]; omega

/-- A REGION THAT DRAWS ITS ORDER: one obligation an operation ('StepsOk'), and the end. -/
theorem wp_region_posts (hm : P.follows .mixedOrders = true) (hok : regOk ops tmps.size = true) (hD0 : ∀ f, D (fun _ => false) f { w with drawn := w.drawn + 1 }) (hG0 : G w { w with drawn := w.drawn + 1 }) (hG00 : ∀ s, G0 s w { w with drawn := w.drawn + 1 }) (hGR : ∀ i w1 w2, G w w1 → R i w1 w2 → G w w2) (hGR0 : ∀ s i w1 w2, i ≠ s → G0 s w w1 → R i w1 w2 → G0 s w w2)
    (hmono : ∀ i j v w1 w2, i ≠ j → G w w1 → R j w1 w2 → post i v w1 → post i v w2)
    (hstep : StepsOk P ops tmps df w G G0 R post D)
    (hend : ∀ f w1, G w w1 → (∀ i, i < ops.size → post i (f i) w1) → (∃ listed : Nat → Bool, (∀ i, i < ops.size → listed i = true) ∧ D listed f w1) → Q .normal ⟨fillR ops tmps f, df⟩ w1) :
    (Code.region id ops true).wp P Q ⟨tmps, df⟩ w := by
  refine wp_region_any hm (wpAny_posts hok hGR hGR0 hmono hstep hend ops.size _ _ _ (fun i => tmps.getD (((ops[i]?).bind (·.dst)).getD 0) undef) (by simp) ?_ ?_ ?_)
  · exact Nat.le_trans List.countP_le_length (by simp)
  · intro j oj hj hl
    have hlt : j < ops.size := (Array.getElem?_eq_some_iff.1 hj).1
    simp [hlt] at hl
  · refine ⟨?_, hG0, fun s _ => hG00 s, ?_, ?_, ?_⟩
    · congr 1
      refine (fillL_old tmps _ ops.toList 0 tmps rfl fun i o d hi hd => ?_).symm
      have hi' : ops[i]? = some o := by simpa using hi
      simp only [Nat.zero_add, hi', Option.bind_some, hd, Option.getD_some]
    · intro i hi hl
      simp [hi] at hl
    · intro i o d _ hi hd
      simp only [hi, Option.bind_some, hd, Option.getD_some]
    · have e : (fun i => (Array.replicate ops.size false).getD i false) = fun _ => false := by
        funext i
        by_cases h : i < ops.size <;> simp [h]
      rw [e]
      exact hD0 _
end


/-! The same, operation by operation, at a region that is written out. -/
def PostsOf (post : Nat → Value → World → Prop) (f : Nat → Value) (w : World) : List Edge → Prop
  | [] => True
  | e :: l => (Region.binds .any e = true → post e.on (f e.on) w) ∧ PostsOf post f w l

def LateFacts (tmps : Array Value) (f : Nat → Value) (k : Nat) : List (Nat × Nat × Nat) → Prop
  | [] => True
  | (k', j, d) :: l => (k' = k → f j = tmps.getD d undef) ∧ LateFacts tmps f k l

def lateOk (ops : Array Oper) : List (Nat × Nat × Nat) → Bool
  | [] => true
  | (k, j, d) :: l => (match ops[j]? with | some o => o.dst == some d && (o.after.toList.any fun e => Region.binds .any e && e.on == k) | none => false) && lateOk ops l

/-- Where one has not run yet. -/
def PreFacts (G0 : Nat → Prop) (k : Nat) : List (Nat × Nat) → Prop
  | [] => True
  | (k', s) :: l => (k' = k → G0 s) ∧ PreFacts G0 k l
def preOk (ops : Array Oper) : List (Nat × Nat) → Bool
  | [] => true
  | (k, s) :: l => behind ops k 3 s && preOk ops l
theorem preFacts_of {ops : Array Oper} {k : Nat} {G0 : Nat → Prop} (h : ∀ s, behind ops k 3 s = true → G0 s) :
    ∀ (l : List (Nat × Nat)), preOk ops l = true → PreFacts G0 k l
  | [], _ => trivial
  | (k', s) :: l, hok => by
    simp only [preOk, Bool.and_eq_true] at hok
    refine ⟨fun hk => ?_, preFacts_of h l hok.2⟩
    subst hk
    exact h s hok.1

def StepOk (P : Program) (fr : (Nat → Value) → Array Value) (lates : List (Nat × Nat × Nat)) (pres : List (Nat × Nat)) (tmps : Array Value) (df : List Deferred) (w : World) (G : World → World → Prop) (G0 : Nat → World → World → Prop) (R : World → World → Prop) (post : Nat → Value → World → Prop) (k : Nat) (o : Oper) : Prop :=
  ∀ f w1, G w w1 → PreFacts (fun s => G0 s w w1) k pres → PostsOf post f w1 o.after.toList → LateFacts tmps f k lates → OpGoal P o ⟨fr f, df⟩ f w1 R (post k)

def StepsL (P : Program) (fr : (Nat → Value) → Array Value) (lates : List (Nat × Nat × Nat)) (pres : List (Nat × Nat)) (tmps : Array Value) (df : List Deferred) (w : World) (G : World → World → Prop) (G0 : Nat → World → World → Prop) (R : Nat → World → World → Prop) (post : Nat → Value → World → Prop) : List Oper → Nat → Prop
  | [], _ => True
  | o :: l, k => StepOk P fr lates pres tmps df w G G0 (R k) post k o ∧ StepsL P fr lates pres tmps df w G G0 R post l (k + 1)

theorem postsOf_of {post : Nat → Value → World → Prop} {f : Nat → Value} {w : World} : ∀ (l : List Edge), (∀ e ∈ l, Region.binds .any e = true → post e.on (f e.on) w) → PostsOf post f w l
  | [], _ => trivial
  | e :: l, h => ⟨h e (List.mem_cons_self ..), postsOf_of l fun e' he => h e' (List.mem_cons_of_mem _ he)⟩

theorem lateFacts_of {ops : Array Oper} {tmps : Array Value} {f : Nat → Value} {k : Nat} (h : ∀ j oj d, ops[j]? = some oj → oj.dst = some d → (oj.after.toList.any fun e => Region.binds .any e && e.on == k) = true → f j = tmps.getD d undef) :
    ∀ (l : List (Nat × Nat × Nat)), lateOk ops l = true → LateFacts tmps f k l
  | [], _ => trivial
  | (k', j, d) :: l, hok => by
    simp only [lateOk, Bool.and_eq_true] at hok
    refine ⟨fun hk => ?_, lateFacts_of h l hok.2⟩
    subst hk
    have h1 := hok.1
    split at h1
    · rename_i o ho
      simp only [Bool.and_eq_true, beq_iff_eq] at h1
      exact h j o d ho h1.1 h1.2
    · cases h1

theorem stepsL_at {P : Program} {fr : (Nat → Value) → Array Value} {lates : List (Nat × Nat × Nat)} {pres : List (Nat × Nat)} {tmps : Array Value} {df : List Deferred} {w : World} {G : World → World → Prop} {G0 : Nat → World → World → Prop} {R : Nat → World → World → Prop} {post : Nat → Value → World → Prop} :
    ∀ (l : List Oper) (k : Nat), StepsL P fr lates pres tmps df w G G0 R post l k → ∀ i o, l[i]? = some o → StepOk P fr lates pres tmps df w G G0 (R (k + i)) post (k + i) o
  | [], _, _, i, o, h => by simp at h
  | x :: l, k, hs, i, o, h => by
    cases i with
    | zero =>
      simp only [List.getElem?_cons_zero, Option.some.injEq] at h
      subst h
      exact hs.1
    | succ i =>
      have := stepsL_at l (k + 1) hs.2 i o (by simpa using h)
      rwa [show k + 1 + i = k + (i + 1) by omega] at this

/-- All operations' posts, as one conjunction. -/
def AllPosts (post : Nat → Value → World → Prop) (f : Nat → Value) (w : World) : Nat → Nat → Prop
  | 0, _ => True
  | n + 1, k => post k (f k) w ∧ AllPosts post f w n (k + 1)
theorem allPosts_of {post : Nat → Value → World → Prop} {f : Nat → Value} {w : World} : ∀ (n k : Nat), (∀ i, k ≤ i → i < k + n → post i (f i) w) → AllPosts post f w n k
  | 0, _, _ => trivial
  | n + 1, k, h => ⟨h k (Nat.le_refl _) (by omega), allPosts_of n (k + 1) fun i h1 h2 => h i (by omega) (by omega)⟩

theorem wp_region_go {P : Program} {id : Nat} {l : List Oper} {Q : Exit → Act → World → Prop} {tmps : Array Value} {df : List Deferred} {w : World} {fr : (Nat → Value) → Array Value}
    (G : World → World → Prop) (G0 : Nat → World → World → Prop) (R : Nat → World → World → Prop) (post : Nat → Value → World → Prop) (lates : List (Nat × Nat × Nat)) (pres : List (Nat × Nat))
    (hm : P.follows .mixedOrders = true) (hok : (regOk l.toArray tmps.size && lateOk l.toArray lates && preOk l.toArray pres) = true) (hfr : ∀ f, fillR l.toArray tmps f = fr f)
    (hG0 : G w w.drew) (hG00 : ∀ s, G0 s w w.drew) (hGR : ∀ i w1 w2, G w w1 → R i w1 w2 → G w w2) (hGR0 : ∀ s i w1 w2, i ≠ s → G0 s w w1 → R i w1 w2 → G0 s w w2)
    (hmono : ∀ i j v w1 w2, i ≠ j → G w w1 → R j w1 w2 → post i v w1 → post i v w2)
    (hstep : StepsL P fr lates pres tmps df w G G0 R post l 0)
    (hend : ∀ f w1, G w w1 → AllPosts post f w1 l.length 0 → Q .normal ⟨fr f, df⟩ w1) :
    (Code.region id l.toArray true).wp P Q ⟨tmps, df⟩ w := by
  simp only [Bool.and_eq_true] at hok
  refine wp_region_posts (D := fun _ _ _ => True) hm hok.1.1 (fun _ => trivial) hG0 hG00 hGR hGR0 hmono ?_ ?_
  · intro i o ho listed f w1 _ _ _ hG hpre hp hl
    have := stepsL_at l 0 hstep i o (by simpa using ho)
    rw [Nat.zero_add] at this
    rw [hfr]
    refine OpGoal.mono (fun _ h => h) (fun _ _ _ h => ⟨h, trivial⟩) (fun h => ⟨h, trivial⟩) ?_
    exact this f w1 hG (preFacts_of (fun s hs => hpre s (behind_anc 3 s hs)) pres hok.2) (postsOf_of _ fun e he hb => hp e (Array.mem_toList_iff.1 he) hb) (lateFacts_of hl lates hok.1.2)
  · intro f w1 hG hp _
    rw [hfr]
    exact hend f w1 hG (allPosts_of _ _ fun i _ hi => hp i (by simpa using hi))

/-- Posts given as a list. -/
def pl (L : List (Value → World → Prop)) (i : Nat) : Value → World → Prop := L.getD i fun _ _ => True
/-- 'It is this value.' -/
def isV (v : Value) : Value → World → Prop := fun u _ => u = v

def AllMono (Rel : World → World → Prop) : List (Value → World → Prop) → Prop
  | [] => True
  | p :: l => (∀ v w1 w2, Rel w1 w2 → p v w1 → p v w2) ∧ AllMono Rel l
/-- .. but for one of them. -/
def AllMonoBut (Rel : World → World → Prop) : Nat → List (Value → World → Prop) → Prop
  | _, [] => True
  | 0, _ :: l => AllMono Rel l
  | s + 1, p :: l => (∀ v w1 w2, Rel w1 w2 → p v w1 → p v w2) ∧ AllMonoBut Rel s l
theorem allMono_at {Rel : World → World → Prop} : ∀ (L : List (Value → World → Prop)), AllMono Rel L → ∀ i v w1 w2, Rel w1 w2 → pl L i v w1 → pl L i v w2
  | [], _, i, v, w1, w2, _, h => by simp [pl]
  | p :: l, hL, i, v, w1, w2, hr, h => by
    cases i with
    | zero => exact hL.1 v w1 w2 hr h
    | succ i => exact allMono_at l hL.2 i v w1 w2 hr h
theorem allMonoBut_at {Rel : World → World → Prop} : ∀ (s : Nat) (L : List (Value → World → Prop)), AllMonoBut Rel s L → ∀ i, i ≠ s → ∀ v w1 w2, Rel w1 w2 → pl L i v w1 → pl L i v w2
  | _, [], _, i, _, v, w1, w2, _, h => by simp [pl]
  | 0, p :: l, hL, i, hi, v, w1, w2, hr, h => by
    cases i with
    | zero => exact absurd rfl hi
    | succ i => exact allMono_at l hL i v w1 w2 hr h
  | s + 1, p :: l, hL, i, hi, v, w1, w2, hr, h => by
    cases i with
    | zero => exact hL.1 v w1 w2 hr h
    | succ i => exact allMonoBut_at s l hL.2 i (fun e => hi (by rw [e])) v w1 w2 hr h

/-- A REGION THAT ONLY READS, CALCULATES, AND CALLS: what was there stays. -/
theorem wp_region_ext {P : Program} {id : Nat} {l : List Oper} {Q : Exit → Act → World → Prop} {tmps : Array Value} {df : List Deferred} {w : World} {fr : (Nat → Value) → Array Value}
    (L : List (Value → World → Prop)) (lates : List (Nat × Nat × Nat))
    (hm : P.follows .mixedOrders = true) (hok : (regOk l.toArray tmps.size && lateOk l.toArray lates && true) = true) (hfr : ∀ f, fillR l.toArray tmps f = fr f)
    (hmono : AllMono Ext L)
    (hstep : StepsL P fr lates [] tmps df w Ext (fun _ _ _ => True) (fun _ => Ext) (pl L) l 0)
    (hend : ∀ f w1, Ext w w1 → AllPosts (pl L) f w1 l.length 0 → Q .normal ⟨fr f, df⟩ w1) :
    (Code.region id l.toArray true).wp P Q ⟨tmps, df⟩ w :=
  wp_region_go Ext (fun _ _ _ => True) (fun _ => Ext) (pl L) lates [] hm hok hfr (Ext.refl w).drew (fun _ => trivial) (fun _ _ _ h k => h.trans k) (fun _ _ _ _ _ _ _ => trivial)
    (fun i _ v w1 w2 _ _ h hp => allMono_at L hmono i v w1 w2 h hp) hstep hend

/-- .. AND STORES ONCE, BY OPERATION s, INTO BLOCK g. -/
theorem wp_region_store {P : Program} {id : Nat} {l : List Oper} {Q : Exit → Act → World → Prop} {tmps : Array Value} {df : List Deferred} {w : World} {fr : (Nat → Value) → Array Value}
    (g s : Nat) (L : List (Value → World → Prop)) (lates : List (Nat × Nat × Nat)) (pres : List Nat)
    (hm : P.follows .mixedOrders = true) (hok : (regOk l.toArray tmps.size && lateOk l.toArray lates && preOk l.toArray (pres.map fun k => (k, s))) = true) (hfr : ∀ f, fillR l.toArray tmps f = fr f)
    (hmono : AllMono Ext L) (hmono2 : AllMonoBut (Chg g) s L)
    (hstep : StepsL P fr lates (pres.map fun k => (k, s)) tmps df w (Chg g) (fun j => if j = s then Ext else fun _ _ => True) (fun j => if j = s then Chg g else Ext) (pl L) l 0)
    (hend : ∀ f w1, Chg g w w1 → AllPosts (pl L) f w1 l.length 0 → Q .normal ⟨fr f, df⟩ w1) :
    (Code.region id l.toArray true).wp P Q ⟨tmps, df⟩ w :=
  wp_region_go (Chg g) (fun j => if j = s then Ext else fun _ _ => True) (fun j => if j = s then Chg g else Ext) (pl L) lates (pres.map fun k => (k, s)) hm hok hfr ((Ext.refl w).drew.chg g) (fun j => by split; exact (Ext.refl w).drew; trivial)
    (fun i w1 w2 h k => by
      by_cases hi : i = s
      · rw [if_pos hi] at k; exact h.trans k
      · rw [if_neg hi] at k; exact h.trans (k.chg g))
    (fun j i w1 w2 hi h k => by
      by_cases hj : j = s
      · subst hj
        rw [if_pos rfl] at h ⊢
        rw [if_neg hi] at k
        exact h.trans k
      · rw [if_neg hj]; trivial)
    (fun i j v w1 w2 hij _ k hp => by
      by_cases hj : j = s
      · rw [if_pos hj] at k; exact allMonoBut_at s L hmono2 i (by omega) v w1 w2 k hp
      · rw [if_neg hj] at k; exact allMono_at L hmono i v w1 w2 k hp)
    hstep hend
end Go.Proofs.Ytnefipinicfegaa
