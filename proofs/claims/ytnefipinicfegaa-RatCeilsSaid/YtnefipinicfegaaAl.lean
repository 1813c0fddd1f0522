/-
  A region that draws its order, calls, makes new things (structs without whole numbers in their cells) and stores into those. Plain but for two types' numbers.
-/
import Derived.Test.YtnefipinicfegaaRatA
namespace Go.Proofs.Ytnefipinicfegaa
open Go.RowKit
set_option linter.unusedVariables false
set_option linter.unusedSimpArgs false

/-- No cell holds a whole number. -/
def NoInt (cs : Array Value) : Prop := ∀ v ∈ cs.toList, ∀ k z, v ≠ .int k z
/-- A new thing is changed. -/
def SChg (S : Nat) (w1 w2 : World) : Prop := ∃ g t cs cs', S ≤ g ∧ t ≠ 79 ∧ t ≠ 3 ∧ NoInt cs ∧ Bx t w1 g cs ∧ Bx t w2 g cs' ∧ Chg g w1 w2
theorem Rd.schg {S : Nat} {w1 w2 : World} {ad : Option Addr} {k : IntKind} {xs : List Nat} (h : Rd w1 ad (vals k xs)) (hc : SChg S w1 w2) : Rd w2 ad (vals k xs) := by
  obtain ⟨g, t, cs, cs', _, _, _, hno, hb, _, hch⟩ := hc
  rcases h with h | ⟨b, off, rfl, h⟩
  · exact .inl h
  · by_cases hbg : b = g
    · subst hbg
      cases xs with
      | nil => exact .inl rfl
      | cons x xs =>
        have h0 := h 0 (.int k x) rfl
        rw [hb.cell] at h0
        have := hno _ (Array.mem_toList_iff.2 (Array.mem_of_getElem? h0)) k x
        exact absurd rfl this
    · refine .inr ⟨b, off, rfl, fun i v hi => ?_⟩
      have := h i v hi
      rw [← this]
      exact World.cell?_of_block (w := w1) (hch.heap (World.block_lt_of_cell? w1 ⟨b, off + i, none⟩ this) hbg)
theorem Own.schg {S : Nat} {e : TypeId} {B : Nat} {w1 w2 : World} {ad : Option Addr} {cap : Nat} {xs : List Value} (h : Own e B w1 ad cap xs) (hc : SChg S w1 w2) (he : e = 79 ∨ e = 3) : Own e B w2 ad cap xs := by
  obtain ⟨g, t, cs, cs', _, ht1, ht2, hno, hb, _, hch⟩ := hc
  rcases h with h | ⟨g', cur, h1, h2, h3, h4⟩
  · exact .inl h
  · refine .inr ⟨g', cur, h1, h2, hch.blk h3 ?_, h4⟩
    rintro rfl
    unfold Bx at hb
    rw [h3] at hb
    simp only [Option.some.injEq, Obj.cells.injEq] at hb
    rcases he with he | he
    · exact ht1 (hb.2.1 ▸ he)
    · exact ht2 (hb.2.1 ▸ he)
theorem IsN.schg {S : Nat} {w1 w2 : World} {k : IntKind} {B n : Nat} {v : Value} (h : IsN k B w1 v n) (hc : SChg S w1 w2) : IsN k B w2 v n := by
  obtain ⟨xs, ⟨ad, cap, h1, h2, h3, h4⟩, h5⟩ := h
  exact ⟨xs, ⟨ad, cap, h1, h2, h3, h4.schg hc⟩, h5⟩
theorem FrN.schg {S : Nat} {w1 w2 : World} {e : TypeId} {k : IntKind} {B B0 n : Nat} {v : Value} (h : FrN e k B B0 w1 v n) (hc : SChg S w1 w2) (he : e = 79 ∨ e = 3) : FrN e k B B0 w2 v n := by
  obtain ⟨ad, cap, h1, h2, h3, h4⟩ := h
  exact ⟨ad, cap, h1, h2, h3, h4.schg hc he⟩
theorem FrZ.schg {S : Nat} {w1 w2 : World} {B0 : Nat} {v : Value} {z : Int} (h : FrZ B0 w1 v z) (hc : SChg S w1 w2) : FrZ B0 w2 v z := by
  obtain ⟨s, h1, h2⟩ := h
  exact ⟨s, h1, h2.schg hc (.inl rfl)⟩
theorem FrQ.schg {S : Nat} {w1 w2 : World} {B0 : Nat} {v : Value} {q : Rat} (h : FrQ B0 w1 v q) (hc : SChg S w1 w2) : FrQ B0 w2 v q := by
  obtain ⟨s, t, h1, h2, h3⟩ := h
  exact ⟨s, t, h1, h2.schg hc (.inl rfl), h3.schg hc (.inl rfl)⟩

/-- What is told of an operation's value. -/
structure PA (S : Nat) where
  p : Value → World → Prop
  m : ∀ v w1 w2, Ext w1 w2 → p v w1 → p v w2
  m3 : ∀ v w1 w2, SChg S w1 w2 → p v w1 → p v w2
def PA.val {S : Nat} (v : Value) : PA S := ⟨fun u _ => u = v, fun _ _ _ _ h => h, fun _ _ _ _ h => h⟩
def PA.any {S : Nat} : PA S := ⟨fun _ _ => True, fun _ _ _ _ h => h, fun _ _ _ _ h => h⟩
def PA.isN {S : Nat} (n : Nat) : PA S := ⟨fun u w => IsN .u64 W w u n, fun _ _ _ h hp => hp.ext h, fun _ _ _ h hp => hp.schg h⟩
def PA.frN {S : Nat} (n : Nat) : PA S := ⟨fun u w => FrN 79 .u64 W S w u n, fun _ _ _ h hp => hp.ext h, fun _ _ _ h hp => hp.schg h (.inl rfl)⟩
def PA.frZ {S : Nat} (z : Int) : PA S := ⟨fun u w => FrZ S w u z, fun _ _ _ h hp => hp.ext h, fun _ _ _ h hp => hp.schg h⟩
def PA.frQ {S : Nat} (q : Rat) : PA S := ⟨fun u w => FrQ S w u q, fun _ _ _ h hp => hp.ext h, fun _ _ _ h hp => hp.schg h⟩

/-- Operation a makes a new thing of type t with n cells. -/
structure Al where
  a : Nat
  t : TypeId
  n : Nat
  z : Array Value
/-- Operation s stores into what operation a has made. -/
structure Sa (S : Nat) where
  s : Nat
  x : Al
  F : PA S
def alAt : List Al → Nat → Option Al
  | [], _ => none
  | x :: l, k => if k = x.a then some x else alAt l k
def saAt {S : Nat} : List (Sa S) → Nat → Option (Sa S)
  | [], _ => none
  | x :: l, k => if k = x.s then some x else saAt l k
theorem alAt_mem {l : List Al} {k : Nat} {x : Al} (h : alAt l k = some x) : x ∈ l ∧ x.a = k := by
  induction l with
  | nil => cases h
  | cons y l ih =>
    simp only [alAt] at h
    split at h
    · cases h; exact ⟨List.mem_cons_self .., by omega⟩
    · exact ⟨List.mem_cons_of_mem _ (ih h).1, (ih h).2⟩
theorem saAt_mem {S : Nat} {l : List (Sa S)} {k : Nat} {x : Sa S} (h : saAt l k = some x) : x ∈ l ∧ x.s = k := by
  induction l with
  | nil => cases h
  | cons y l ih =>
    simp only [saAt] at h
    split at h
    · cases h; exact ⟨List.mem_cons_self .., by omega⟩
    · exact ⟨List.mem_cons_of_mem _ (ih h).1, (ih h).2⟩

/-- What is known of the new things. -/
structure JA {S : Nat} (als : List Al) (sas : List (Sa S)) (listed : Nat → Bool) (f : Nat → Value) (w : World) : Prop where
  made : ∀ x ∈ als, listed x.a = true → ∃ g cs, f x.a = .pointer (some ⟨g, 0, none⟩) ∧ S ≤ g ∧ Bx x.t w g cs ∧ cs.size = x.n ∧ NoInt cs
  apart : ∀ x ∈ als, ∀ y ∈ als, x.a ≠ y.a → listed x.a = true → listed y.a = true → f x.a ≠ f y.a
  put : ∀ y ∈ sas, listed y.s = true → listed y.x.a = true ∧ ∃ g cs, f y.x.a = .pointer (some ⟨g, 0, none⟩) ∧ Bx y.x.t w g cs ∧ y.F.p (.agg cs) w

/-- What is told of operation j. -/
def postA {S : Nat} (als : List Al) (sas : List (Sa S)) (L : List (PA S)) (j : Nat) (v : Value) (w : World) : Prop := alAt als j = none → saAt sas j = none → (L.getD j PA.any).p v w
/-- What operation k owes. -/
def OweA {S : Nat} (P : Program) (fr : (Nat → Value) → Array Value) (df : List Deferred) (w : World) (als : List Al) (sas : List (Sa S)) (L : List (PA S)) (k : Nat) (o : Oper) : Prop :=
  ∀ f w1, Ext w w1 → PostsOf (postA als sas L) f w1 o.after.toList →
    match alAt als k with
    | some x => OpGoal P o ⟨fr f, df⟩ f w1 (fun a b => b = a.alloc (.cells x.z x.t)) (fun v _ => v = .pointer (some ⟨w1.heap.size, 0, none⟩))
    | none => match saAt sas k with
      | some y => ∀ g old, f y.x.a = .pointer (some ⟨g, 0, none⟩) → S ≤ g → Bx y.x.t w1 g old → old.size = y.x.n → NoInt old →
          OpGoal P o ⟨fr f, df⟩ f w1 (Chg g) (fun _ w2 => ∃ cs, Bx y.x.t w2 g cs ∧ cs.size = y.x.n ∧ NoInt cs ∧ y.F.p (.agg cs) w2)
      | none => OpGoal P o ⟨fr f, df⟩ f w1 Ext (L.getD k PA.any).p
def OwesA {S : Nat} (P : Program) (fr : (Nat → Value) → Array Value) (df : List Deferred) (w : World) (als : List Al) (sas : List (Sa S)) (L : List (PA S)) : List Oper → Nat → Prop
  | [], _ => True
  | o :: l, k => OweA P fr df w als sas L k o ∧ OwesA P fr df w als sas L l (k + 1)
theorem owesA_at {S : Nat} {P : Program} {fr : (Nat → Value) → Array Value} {df : List Deferred} {w : World} {als : List Al} {sas : List (Sa S)} {L : List (PA S)} :
    ∀ (l : List Oper) (k : Nat), OwesA P fr df w als sas L l k → ∀ i o, l[i]? = some o → OweA P fr df w als sas L (k + i) o
  | [], _, _, i, o, h => by simp at h
  | x :: l, k, hs, i, o, h => by
    cases i with
    | zero =>
      simp only [List.getElem?_cons_zero, Option.some.injEq] at h
      subst h
      exact hs.1
    | succ i =>
      have := owesA_at l (k + 1) hs.2 i o (by simpa using h)
      rwa [show k + 1 + i = k + (i + 1) by omega] at this

theorem OpGoal.mono2 {P : Program} {o : Oper} {a : Act} {f : Nat → Value} {w : World} {R R' : World → World → Prop} {p p' : Value → World → Prop} (hp : ∀ v w', R w w' → p v w' → R' w w' ∧ p' v w') (hu : p undef w → p' undef w) (h : OpGoal P o a f w R p) : OpGoal P o a f w R' p' := by
  have key : ∀ {Q : Exit → Act → World → Prop}, o.wp P a w (OpFin a o.dst w R p) Q → o.wp P a w (OpFin a o.dst w R' p') Q := fun h => Oper.wp_mono (fun a' w' ⟨v, h1, h2, h3⟩ => ⟨v, h1, (hp _ _ h2 h3).1, (hp _ _ h2 h3).2⟩) h
  unfold OpGoal at h ⊢
  split at h
  · exact key h
  · exact ⟨fun hc => key (h.1 hc), fun hc => hu (h.2 hc)⟩
theorem tellA {S : Nat} {w1 : World} {als : List Al} {sas : List (Sa S)} {L : List (PA S)} {f : Nat → Value} {l : List Edge} (hp : PostsOf (postA als sas L) f w1 l) (n j : Nat)
    (h : (match l[n]? with | some e => Region.binds .any e && e.on == j | none => false) = true) (ha : alAt als j = none) (hs : saAt sas j = none) : (L.getD j PA.any).p (f j) w1 :=
  postsOf_nth l n j h hp ha hs
theorem endA {S : Nat} {w1 : World} {als : List Al} {sas : List (Sa S)} {L : List (PA S)} {f : Nat → Value} {n : Nat} (hp : AllPosts (postA als sas L) f w1 n 0) (j : Nat) (hk : j < n) (ha : alAt als j = none) (hs : saAt sas j = none) : (L.getD j PA.any).p (f j) w1 :=
  allPosts_nth n 0 j (Nat.zero_le _) (by omega) hp ha hs

/-- A REGION THAT DRAWS ITS ORDER, CALLS, MAKES NEW THINGS AND STORES INTO THOSE. -/
theorem wp_region_als {P : Program} {id : Nat} {l : List Oper} {Q : Exit → Act → World → Prop} {tmps : Array Value} {df : List Deferred} {w : World} {fr : (Nat → Value) → Array Value}
    (als : List Al) (sas : List (Sa w.heap.size)) (L : List (PA w.heap.size))
    (hm : P.follows .mixedOrders = true) (hok : (regOk l.toArray tmps.size && sas.all fun y => ancOk l.toArray [y.s] [y.x.a] && y.s != y.x.a) = true)
    (hfr : ∀ f, fillR l.toArray tmps f = fr f)
    (hal : ∀ x ∈ als, alAt als x.a = some x ∧ saAt sas x.a = none ∧ x.t ≠ 79 ∧ x.t ≠ 3 ∧ x.z.size = x.n ∧ NoInt x.z)
    (hsa : ∀ y ∈ sas, saAt sas y.s = some y ∧ alAt als y.s = none ∧ y.x ∈ als) (hsa2 : ∀ y ∈ sas, ∀ z ∈ sas, y.s ≠ z.s → y.x.a ≠ z.x.a)
    (hstep : OwesA P fr df w als sas L l 0)
    (hend : ∀ f w1, Ext w w1 → AllPosts (postA als sas L) f w1 l.length 0 →
      (∀ x ∈ als, x.a < l.length → ∃ g cs, f x.a = .pointer (some ⟨g, 0, none⟩) ∧ w.heap.size ≤ g ∧ Bx x.t w1 g cs ∧ cs.size = x.n ∧ ∀ y ∈ sas, y.s < l.length → y.x.a = x.a → y.x.t = x.t → y.F.p (.agg cs) w1) → Q .normal ⟨fr f, df⟩ w1) :
    (Code.region id l.toArray true).wp P Q ⟨tmps, df⟩ w := by
  simp only [Bool.and_eq_true] at hok
  obtain ⟨hok1, hok2⟩ := hok
  -- the relation of a step
  let R : Nat → World → World → Prop := fun i w1 w2 => if (alAt als i).isSome = true ∨ (saAt sas i).isSome = false then Ext w1 w2 else SChg w.heap.size w1 w2
  have schgExt : ∀ {w1 w2 : World}, Ext w w1 → SChg w.heap.size w1 w2 → Ext w w2 := by
    rintro w1 w2 h ⟨g, t, cs, cs', hg, _, _, _, _, _, hch⟩
    exact h.step hch hg
  refine wp_region_posts (D := JA als sas) (G := Ext) (G0 := fun _ _ _ => True) (R := R) (post := postA als sas L) hm hok1 ?_ (Ext.refl w).drew (fun _ => trivial) ?_ (fun _ _ _ _ _ _ _ => trivial) ?_ ?_ ?_
  · intro f
    exact ⟨fun x hx h => (by cases h), fun x hx y hy hne h => (by cases h), fun y hy h => (by cases h)⟩
  · intro i w1 w2 hG hR
    by_cases hc : (alAt als i).isSome = true ∨ (saAt sas i).isSome = false
    · simp only [R, hc, if_true] at hR; exact hG.trans hR
    · simp only [R, hc, if_false] at hR; exact schgExt hG hR
  · intro i j v w1 w2 hij hG hR hp ha hs
    by_cases hc : (alAt als j).isSome = true ∨ (saAt sas j).isSome = false
    · simp only [R, hc, if_true] at hR; exact (L.getD i PA.any).m _ _ _ hR (hp ha hs)
    · simp only [R, hc, if_false] at hR; exact (L.getD i PA.any).m3 _ _ _ hR (hp ha hs)
  · intro i o ho listed f w1 hil hbef hD hG _ hp _
    have hO := owesA_at l 0 hstep i o (by simpa using ho)
    rw [Nat.zero_add] at hO
    rw [hfr]
    have hg := hO f w1 hG (postsOf_of _ fun e he hb => hp e (Array.mem_toList_iff.1 he) hb)
    clear hO
    cases ha : alAt als i with
    | some x =>
      simp only [ha] at hg
      have hxm := (alAt_mem ha).1
      have hxa := (alAt_mem ha).2
      have hxl := hal x hxm
      refine OpGoal.mono2 ?_ (fun h => by cases h) hg
      rintro v w' rfl rfl
      have hext : Ext w1 (w1.alloc (.cells x.z x.t)) := (Ext.refl w1).alloc _
      refine ⟨by simp only [R, ha, Option.isSome_some, true_or, if_true]; exact hext, fun h => by simp [ha] at h, ?_, ?_, ?_⟩
      · intro x' hx' hl'
        by_cases hi : x'.a = i
        · have : x' = x := by
            have h1 := (hal x' hx').1
            rw [hi, ha] at h1
            exact (Option.some.inj h1).symm
          subst this
          exact ⟨w1.heap.size, x'.z, by simp [hi], hG.size, Bx.new w1 x'.t x'.z, hxl.2.2.2.2.1, hxl.2.2.2.2.2⟩
        · simp only [hi, if_false] at hl' ⊢
          obtain ⟨g, cs, h1, h2, h3, h4⟩ := hD.made x' hx' hl'
          exact ⟨g, cs, h1, h2, h3.ext hext, h4⟩
      · intro x' hx' y' hy' hne hlx hly
        have old : ∀ z ∈ als, z.a ≠ i → listed z.a = true → f z.a ≠ .pointer (some ⟨w1.heap.size, 0, none⟩) := by
          intro z hz hzi hlz h
          obtain ⟨g, cs, h1, h2, h3, h4⟩ := hD.made z hz hlz
          rw [h1] at h
          have := h3.lt
          simp only [Value.pointer.injEq, Option.some.injEq, Addr.mk.injEq, and_true] at h
          omega
        by_cases h1 : x'.a = i
        · have h2 : y'.a ≠ i := by omega
          simp only [h1, h2, if_true, if_false] at hlx hly ⊢
          exact fun h => old y' hy' h2 hly h.symm
        · by_cases h2 : y'.a = i
          · simp only [h1, h2, if_true, if_false] at hlx hly ⊢
            exact old x' hx' h1 hlx
          · simp only [h1, h2, if_false] at hlx hly ⊢
            exact hD.apart x' hx' y' hy' hne hlx hly
      · intro y hy hly
        have hyi : y.s ≠ i := by
          intro e
          have := (hsa y hy).1
          rw [e, ← hxa, hxl.2.1] at this
          cases this
        simp only [hyi, if_false] at hly ⊢
        obtain ⟨hla, g, cs, h1, h2, h3⟩ := hD.put y hy hly
        have hai : y.x.a ≠ i := by intro e; rw [e, hil] at hla; cases hla
        simp only [hai, if_false]
        exact ⟨hla, g, cs, h1, h2.ext hext, y.F.m _ _ _ hext h3⟩
    | none =>
      have nota : ∀ x ∈ als, x.a ≠ i := by
        intro x hx e
        have := (hal x hx).1
        rw [e, ha] at this
        cases this
      simp only [ha] at hg
      cases hs : saAt sas i with
      | some y =>
        simp only [hs] at hg
        have hym := (saAt_mem hs).1
        have hys := (saAt_mem hs).2
        have hyl := hsa y hym
        have hcheck := List.all_eq_true.1 hok2 y hym
        simp only [Bool.and_eq_true] at hcheck
        have hla : listed y.x.a = true := by
          refine hbef y.x.a (anc_of _ [y.s] (fun j hj => ?_) hcheck.1 _ (List.mem_singleton.2 rfl)) (nota y.x hyl.2.2)
          have : j = y.s := by simpa using hj
          rw [this, hys]; exact .self
        obtain ⟨g, old, h1, h2, h3, h4, h5⟩ := hD.made y.x hyl.2.2 hla
        have hxl := hal y.x hyl.2.2
        have key : ∀ (v : Value) (w' : World), Chg g w1 w' → (∃ cs, Bx y.x.t w' g cs ∧ cs.size = y.x.n ∧ NoInt cs ∧ y.F.p (.agg cs) w') → SChg w.heap.size w1 w' ∧ JA als sas (fun j => if j = i then true else listed j) (fun j => if j = i then v else f j) w' := by
          rintro v w' hch ⟨cs, k1, k2, k3, k4⟩
          have hsc : SChg w.heap.size w1 w' := ⟨g, y.x.t, old, cs, h2, hxl.2.2.1, hxl.2.2.2.1, h5, h3, k1, hch⟩
          refine ⟨hsc, ?_, ?_, ?_⟩
          · intro x' hx' hl'
            simp only [nota x' hx', if_false] at hl' ⊢
            obtain ⟨g', cs', m1, m2, m3, m4⟩ := hD.made x' hx' hl'
            by_cases he : x'.a = y.x.a
            · have : x' = y.x := by
                have q1 := (hal x' hx').1
                rw [he, hxl.1] at q1
                exact (Option.some.inj q1).symm
              subst this
              exact ⟨g, cs, h1, h2, k1, k2, k3⟩
            · have hne := hD.apart x' hx' y.x hyl.2.2 he hl' hla
              have : g' ≠ g := by
                rintro rfl
                exact hne (by rw [m1, h1])
              exact ⟨g', cs', m1, m2, m3.chg hch this, m4⟩
          · intro x' hx' y' hy' hne hlx hly
            simp only [nota x' hx', nota y' hy', if_false] at hlx hly ⊢
            exact hD.apart x' hx' y' hy' hne hlx hly
          · intro z hz hlz
            simp only [nota z.x (hsa z hz).2.2, if_false]
            by_cases hzi : z.s = i
            · have : z = y := by
                have q1 := (hsa z hz).1
                rw [hzi, hs] at q1
                exact (Option.some.inj q1).symm
              subst this
              exact ⟨hla, g, cs, h1, k1, k4⟩
            · simp only [hzi, if_false] at hlz
              obtain ⟨hlz2, g', cs', m1, m2, m3⟩ := hD.put z hz hlz
              have hne := hD.apart z.x (hsa z hz).2.2 y.x hyl.2.2 (hsa2 z hz y hym (by omega)) hlz2 hla
              have : g' ≠ g := by
                rintro rfl
                exact hne (by rw [m1, h1])
              exact ⟨hlz2, g', cs', m1, m2.chg hch this, z.F.m3 _ _ _ hsc m3⟩
        refine OpGoal.mono2 (fun v w' hch hk => ?_) (fun h => ⟨fun _ h => by simp [hs] at h, (key undef w1 (Chg.refl g w1) h).2⟩) (hg g old h1 h2 h3 h4 h5)
        have hk2 := key v w' hch hk
        exact ⟨by simp only [R, ha, hs, Option.isSome_none, Option.isSome_some, Bool.false_eq_true, false_or, reduceCtorEq, if_false]; exact hk2.1, fun _ h => by simp [hs] at h, hk2.2⟩
      | none =>
        simp only [hs] at hg
        have key : ∀ v w', Ext w1 w' → JA als sas (fun j => if j = i then true else listed j) (fun j => if j = i then v else f j) w' := by
          intro v w' hext
          refine ⟨?_, ?_, ?_⟩
          · intro x' hx' hl'
            simp only [nota x' hx', if_false] at hl' ⊢
            obtain ⟨g', cs', m1, m2, m3, m4⟩ := hD.made x' hx' hl'
            exact ⟨g', cs', m1, m2, m3.ext hext, m4⟩
          · intro x' hx' y' hy' hne hlx hly
            simp only [nota x' hx', nota y' hy', if_false] at hlx hly ⊢
            exact hD.apart x' hx' y' hy' hne hlx hly
          · intro z hz hlz
            simp only [nota z.x (hsa z hz).2.2, if_false]
            have hzi : z.s ≠ i := by
              intro e
              have := (hsa z hz).1
              rw [e, hs] at this
              cases this
            simp only [hzi, if_false] at hlz
            obtain ⟨hlz2, g', cs', m1, m2, m3⟩ := hD.put z hz hlz
            exact ⟨hlz2, g', cs', m1, m2.ext hext, z.F.m _ _ _ hext m3⟩
        refine OpGoal.mono2 (fun v w' hext hpv => ⟨by simp only [R, ha, hs, Option.isSome_none, or_true, if_true]; exact hext, fun _ _ => hpv, key v w' hext⟩) (fun h => ⟨fun _ _ => h, key undef w1 (Ext.refl w1)⟩) hg
  · intro f w1 hG hp hj
    obtain ⟨listed, hall, hD⟩ := hj
    rw [hfr]
    refine hend f w1 hG (allPosts_of _ _ fun i _ hi => hp i (by simpa using hi)) fun x hx hlt => ?_
    obtain ⟨g, cs, m1, m2, m3, m4, _⟩ := hD.made x hx (hall _ (by simpa using hlt))
    refine ⟨g, cs, m1, m2, m3, m4, fun y hy hys hya hyt => ?_⟩
    obtain ⟨_, g', cs', n1, n2, n3⟩ := hD.put y hy (hall _ (by simpa using hys))
    rw [hya, m1] at n1
    simp only [Value.pointer.injEq, Option.some.injEq, Addr.mk.injEq, and_true] at n1
    subst n1
    unfold Bx at n2 m3
    rw [hyt, m3] at n2
    simp only [Option.some.injEq, Obj.cells.injEq, and_true] at n2
    subst n2
    exact n3

theorem FrZ.parts {B0 : Nat} {w : World} {v : Value} {z : Int} (h : FrZ B0 w v z) : ∃ cells, v = .agg cells ∧ cells.size = 2 ∧ cells.all (·.oneCell') = true ∧ NoInt cells := by
  obtain ⟨s, rfl, hn⟩ := h
  obtain ⟨ad, cap, rfl⟩ := hn.slice
  exact ⟨_, rfl, rfl, all2 rfl rfl, by intro v hv k z; simp at hv; rcases hv with rfl | rfl <;> simp⟩
theorem FrQ.parts {B0 : Nat} {w : World} {v : Value} {q : Rat} (h : FrQ B0 w v q) : ∃ cells, v = .agg cells ∧ cells.size = 3 ∧ cells.all (·.oneCell') = true ∧ NoInt cells := by
  obtain ⟨s, t, rfl, hn, hm⟩ := h
  obtain ⟨ad, cap, rfl⟩ := hn.slice
  obtain ⟨ad2, cap2, rfl⟩ := hm.slice
  exact ⟨_, rfl, rfl, all3 rfl rfl rfl, by intro v hv k z; simp at hv; rcases hv with rfl | rfl | rfl <;> simp⟩
theorem noInt2 (b : Bool) (a : Option Addr) (n c : Nat) : NoInt #[.bool b, .slice a n c] := by intro v hv k z; simp at hv; rcases hv with rfl | rfl <;> simp
theorem noInt3 (b : Bool) (a : Option Addr) (n c : Nat) (a2 : Option Addr) (n2 c2 : Nat) : NoInt #[.bool b, .slice a n c, .slice a2 n2 c2] := by intro v hv k z; simp at hv; rcases hv with rfl | rfl | rfl <;> simp
/-- A struct stored into a new thing. -/
theorem og_storeA {P : Program} {o : Oper} {a : Act} {f : Nat → Value} {w : World} {S : Nat} (F : PA S) (n : Nat) (ty : TypeId) (x y : Operand) (g : Nat) (t : TypeId) (old cells : Array Value) (hgd : o.guard = none) (ho : o.op = .store ty x y) (hx : a.eval x = .pointer (some ⟨g, 0, none⟩)) (hy : a.eval y = .agg cells)
    (hg : Bx t w g old) (hi : (P.info? ty).map (·.size) = some cells.size) (hold : old.size = n) (hn : cells.size = n) (h1 : cells.all (·.oneCell') = true) (hSg : S ≤ g) (ht1 : t ≠ 79) (ht2 : t ≠ 3) (hno : NoInt old) (hno2 : NoInt cells) (q : F.p (.agg cells) w) :
    OpGoal P o a f w (Chg g) (fun _ w2 => ∃ cs, Bx t w2 g cs ∧ cs.size = n ∧ NoInt cs ∧ F.p (.agg cs) w2) := by
  unfold OpGoal
  rw [hgd]
  refine wp_store_row ty x y ho g cells hx hy t old hg hi (by omega) h1 ⟨_, rfl, Chg.setRow w g cells, cells, hg.setRow cells, hn, hno2, ?_⟩
  exact F.m3 _ _ _ ⟨g, t, old, cells, hSg, ht1, ht2, hno, hg, hg.setRow cells, Chg.setRow w g cells⟩ q
/-- A new thing made. -/
theorem og_alloc {P : Program} {o : Oper} {a : Act} {f : Nat → Value} {w : World} (t : TypeId) (z : Array Value) (zv : Value) (hgd : o.guard = none) (ho : o.op = .alloc t) (hz : ((P.info? t).bind (·.zero)) = some zv) (hzc : zv.cells = z) :
    OpGoal P o a f w (fun a b => b = a.alloc (.cells z t)) (fun v _ => v = .pointer (some ⟨w.heap.size, 0, none⟩)) := by
  unfold OpGoal
  rw [hgd]
  subst hzc
  cases hi : P.info? t with
  | none => rw [hi] at hz; cases hz
  | some i =>
    rw [hi] at hz
    have hz' : i.zero = some zv := hz
    unfold Oper.wp execOp
    simp [ho, Instr.alloc, zeroValue, typeInfo, hi, hz', newVar, newRow, run_newObj_alloc]
    exact ⟨_, rfl, rfl, rfl⟩
end Go.Proofs.Ytnefipinicfegaa
