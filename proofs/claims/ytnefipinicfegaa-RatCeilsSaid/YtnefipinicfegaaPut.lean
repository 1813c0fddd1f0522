/-
  A region that draws its order, calls, and stores into blocks of its own; one thing in a block. Plain: no program is named here.
-/
import Derived.Test.YtnefipinicfegaaReg
namespace Go.Proofs.Ytnefipinicfegaa
open Go.RowKit
set_option linter.unusedVariables false
set_option linter.unusedSimpArgs false

/-- Block g is the cells cs of one thing of type t. -/
def Bx (t : TypeId) (w : World) (g : Nat) (cs : Array Value) : Prop := w.heap[g]? = some (.cells cs t (0, 0))
section
variable {t : TypeId} {w w' : World} {g : Nat} {cs : Array Value}
theorem Bx.new (w : World) (t : TypeId) (cs : Array Value) : Bx t (w.alloc (.cells cs t)) w.heap.size cs := heap_alloc_new w _
theorem Bx.ext (h : Bx t w g cs) (he : Ext w w') : Bx t w' g cs := he.blk h
theorem Bx.chg {g0 : Nat} (h : Bx t w g cs) (he : Chg g0 w w') (hne : g ≠ g0) : Bx t w' g cs := he.blk h hne
theorem Bx.cell (h : Bx t w g cs) (i : Nat) : w.cell? ⟨g, i, none⟩ = cs[i]? := cell_of_row w g i _ t _ h
theorem Bx.free (h : Bx t w g cs) (i : Nat) : w.frozen? ⟨g, i, none⟩ = false := frozen_of_row w g i _ t h
theorem Bx.set (h : Bx t w g cs) (i : Nat) (v : Value) : Bx t (w.setCell ⟨g, i, none⟩ v) g (cs.setIfInBounds i v) := heap_setCell_same w g i _ t _ h
theorem Bx.lt (h : Bx t w g cs) : g < w.heap.size := blk_lt h
theorem Bx.setRow (h : Bx t w g cs) (cs' : Array Value) : Bx t (w.setRow g cs') g cs' := by
  unfold Bx World.setRow at *
  simp only [Array.getElem?_modify, if_pos rfl, h]
  rfl
end
theorem Chg.setRow (w : World) (g : Nat) (cs : Array Value) : Chg g w (w.setRow g cs) :=
  ⟨rfl, rfl, rfl, by simp [World.setRow], fun k _ hne => by
    have : k ≠ g := by simpa using hne
    unfold World.setRow
    simp only [Array.getElem?_modify]
    rw [if_neg (fun e => this e.symm)]⟩
theorem Chg.two' {g : Nat} {a b c : World} (h : Chg g a b) (k : Chg g b c) : Chg g a c := h.trans k

/-- All blocks but some are as they were. -/
def ChgS (bs : List Nat) (w w' : World) : Prop := w'.os = w.os ∧ w'.tape = w.tape ∧ w'.output = w.output ∧ w.heap.size ≤ w'.heap.size ∧ ∀ k, k < w.heap.size → k ∉ bs → w'.heap[k]? = w.heap[k]?
theorem ChgS.refl (bs : List Nat) (w : World) : ChgS bs w w := ⟨rfl, rfl, rfl, Nat.le_refl _, fun _ _ _ => rfl⟩
theorem ChgS.trans {bs : List Nat} {a b c : World} (h : ChgS bs a b) (k : ChgS bs b c) : ChgS bs a c :=
  ⟨k.1.trans h.1, k.2.1.trans h.2.1, k.2.2.1.trans h.2.2.1, Nat.le_trans h.2.2.2.1 k.2.2.2.1, fun i hi n => (k.2.2.2.2 i (Nat.lt_of_lt_of_le hi h.2.2.2.1) n).trans (h.2.2.2.2 i hi n)⟩
theorem Ext.chgS (bs : List Nat) {a b : World} (h : Ext a b) : ChgS bs a b := ⟨World.grownBy.os h, World.grownBy.tape h, World.grownBy.output h, h.size, fun _ hk _ => h.heap hk⟩
theorem Chg.chgS {g : Nat} {bs : List Nat} {a b : World} (h : Chg g a b) (hg : g ∈ bs) : ChgS bs a b := ⟨World.grownBy.os h, World.grownBy.tape h, World.grownBy.output h, h.size, fun k hk n => h.heap hk fun e => n (by rw [e]; exact hg)⟩
theorem ChgS.nil {w w' : World} (h : ChgS [] w w') : Ext w w' := ⟨h.1, h.2.1, h.2.2.1, h.2.2.2.1, fun k hk _ => h.2.2.2.2 k hk (by simp)⟩
theorem ChgS.blk {bs : List Nat} {w w' : World} (h : ChgS bs w w') {g : Nat} {o : Obj} (hv : w.heap[g]? = some o) (hn : g ∉ bs) : w'.heap[g]? = some o := (h.2.2.2.2 g (blk_lt hv) hn).trans hv
theorem Bx.chgS {t : TypeId} {w w' : World} {g : Nat} {cs : Array Value} {bs : List Nat} (h : Bx t w g cs) (he : ChgS bs w w') (hn : g ∉ bs) : Bx t w' g cs := he.blk h hn
theorem Ext.stepS {a w w' : World} {bs : List Nat} (h : Ext a w) (k : ChgS bs w w') (hb : ∀ g ∈ bs, a.heap.size ≤ g) : Ext a w' :=
  ⟨k.1.trans (World.grownBy.os h), k.2.1.trans (World.grownBy.tape h), k.2.2.1.trans (World.grownBy.output h), Nat.le_trans h.size k.2.2.2.1, fun i hi _ => (k.2.2.2.2 i (Nat.lt_of_lt_of_le hi h.size) (fun hm => by have := hb i hm; omega)).trans (h.heap hi)⟩

/-- What is told of an operation's value: c: only while nothing has been stored. -/
structure PP (S : Nat) where
  c : Bool
  p : Value → World → Prop
  m : ∀ v w1 w2, Ext w1 w2 → p v w1 → p v w2
  m2 : c = false → ∀ g, g < S → ∀ v w1 w2, Chg g w1 w2 → p v w1 → p v w2
/-- It is this value. -/
def PP.val {S : Nat} (v : Value) : PP S := ⟨false, fun u _ => u = v, fun _ _ _ _ h => h, fun _ _ _ _ _ _ _ h => h⟩
/-- Nothing is told. -/
def PP.any {S : Nat} : PP S := ⟨false, fun _ _ => True, fun _ _ _ _ h => h, fun _ _ _ _ _ _ _ h => h⟩
/-- It is one of these values. -/
def PP.pred {S : Nat} (F : Value → Prop) : PP S := ⟨false, fun u _ => F u, fun _ _ _ _ h => h, fun _ _ _ _ _ _ _ h => h⟩
/-- A number in whatever form. -/
def PP.isN {S : Nat} (k : IntKind) (B n : Nat) : PP S := ⟨true, fun u w => IsN k B w u n, fun _ _ _ h hp => hp.ext h, fun h => by cases h⟩
/-- A number in the one form, in fresh memory. -/
def PP.frN {S : Nat} (e : TypeId) (k : IntKind) (B n : Nat) : PP S := ⟨false, fun u w => FrN e k B S w u n, fun _ _ _ h hp => hp.ext h, fun _ _ hg _ _ _ h hp => hp.chg h hg⟩

/-- A store: which operation, which block, of which type, and what is told of what it stores. -/
structure St (S : Nat) where
  s : Nat
  g : Nat
  t : TypeId
  F : PP S
def stAt {S : Nat} : List (St S) → Nat → Option (St S)
  | [], _ => none
  | x :: l, k => if k = x.s then some x else stAt l k
theorem stAt_mem {S : Nat} {l : List (St S)} {k : Nat} {x : St S} (h : stAt l k = some x) : x ∈ l ∧ x.s = k := by
  induction l with
  | nil => cases h
  | cons y l ih =>
    simp only [stAt] at h
    split at h
    · cases h; exact ⟨List.mem_cons_self .., by omega⟩
    · exact ⟨List.mem_cons_of_mem _ (ih h).1, (ih h).2⟩

/-- What is told of operation k at world v, the region begun at w. -/
def postD {S : Nat} (w : World) (sts : List (St S)) (L : List (PP S)) (k : Nat) (v : Value) (w1 : World) : Prop :=
  match stAt sts k with
  | some x => ∃ cs, Bx x.t w1 x.g cs ∧ x.F.p (.agg cs) w1
  | none => ((L.getD k PP.any).c = true → Ext w w1) → (L.getD k PP.any).p v w1

theorem postsOf_nth {post : Nat → Value → World → Prop} {f : Nat → Value} {w : World} : ∀ (l : List Edge) (n j : Nat), (match l[n]? with | some e => Region.binds .any e && e.on == j | none => false) = true → PostsOf post f w l → post j (f j) w
  | [], n, j, h, _ => by simp at h
  | e :: l, 0, j, h, hp => by
    simp only [List.getElem?_cons_zero, Bool.and_eq_true, beq_iff_eq] at h
    rw [← h.2]
    exact hp.1 h.1
  | e :: l, n + 1, j, h, hp => postsOf_nth l n j (by simpa using h) hp.2
/-- What is told of an operation that lies ahead. -/
theorem tellV {S : Nat} {w w1 : World} {sts : List (St S)} {L : List (PP S)} {f : Nat → Value} {l : List Edge} (hp : PostsOf (postD w sts L) f w1 l) (n j : Nat)
    (h : (match l[n]? with | some e => Region.binds .any e && e.on == j | none => false) = true) (hs : stAt sts j = none) (hc : (L.getD j PP.any).c = true → Ext w w1) : (L.getD j PP.any).p (f j) w1 := by
  have := postsOf_nth l n j h hp
  unfold postD at this
  rw [hs] at this
  exact this hc
theorem allPosts_nth {post : Nat → Value → World → Prop} {f : Nat → Value} {w : World} : ∀ (n k j : Nat), k ≤ j → j < k + n → AllPosts post f w n k → post j (f j) w
  | 0, k, j, h1, h2, _ => by omega
  | n + 1, k, j, h1, h2, h => by
    by_cases hk : k = j
    · subst hk; exact h.1
    · exact allPosts_nth n (k + 1) j (by omega) (by omega) h.2
/-- What is told at the end. -/
theorem endS {S : Nat} {w w1 : World} {sts : List (St S)} {L : List (PP S)} {f : Nat → Value} {n : Nat} (hp : AllPosts (postD w sts L) f w1 n 0) (k : Nat) (hk : k < n) : postD w sts L k (f k) w1 :=
  allPosts_nth n 0 k (Nat.zero_le _) (by omega) hp
theorem endV {S : Nat} {w w1 : World} {sts : List (St S)} {L : List (PP S)} {f : Nat → Value} {n : Nat} (hp : AllPosts (postD w sts L) f w1 n 0) (j : Nat) (hk : j < n) (hs : stAt sts j = none) (hc : (L.getD j PP.any).c = true → Ext w w1) : (L.getD j PP.any).p (f j) w1 := by
  have := endS hp j hk
  unfold postD at this
  rw [hs] at this
  exact this hc

def ancOk (ops : Array Oper) : List Nat → List Nat → Bool
  | _, [] => true
  | done, k :: rest => (done.any fun j => (ops[j]?).any fun o => o.after.toList.any fun e => Region.binds .any e && e.on == k) && ancOk ops (k :: done) rest
theorem anc_of {ops : Array Oper} {s : Nat} : ∀ (rest done : List Nat), (∀ j ∈ done, Anc ops j s) → ancOk ops done rest = true → ∀ k ∈ rest, Anc ops k s
  | [], _, _, _, k, hk => by cases hk
  | k0 :: rest, done, hd, h, k, hk => by
    simp only [ancOk, Bool.and_eq_true] at h
    obtain ⟨h1, h2⟩ := h
    obtain ⟨j, hj, hj2⟩ := List.any_eq_true.1 h1
    cases ho : ops[j]? with
    | none => rw [ho] at hj2; cases hj2
    | some o =>
      rw [ho] at hj2
      obtain ⟨e, he, he2⟩ := List.any_eq_true.1 hj2
      simp only [Bool.and_eq_true, beq_iff_eq] at he2
      have hk0 : Anc ops k0 s := by
        refine Anc.trans (.edge ho (Array.mem_toList_iff.1 he) he2.1 ?_) (hd j hj)
        rw [he2.2]; exact .self
      rcases List.mem_cons.1 hk with rfl | hk
      · exact hk0
      · exact anc_of rest (k0 :: done) (fun j hj => by rcases List.mem_cons.1 hj with rfl | hj; exact hk0; exact hd j hj) h2 k hk

/-- What operation k owes: where all stores are known to lie behind it (pre), nothing is changed yet. -/
def OweD {S : Nat} (P : Program) (fr : (Nat → Value) → Array Value) (df : List Deferred) (w : World) (sts : List (St S)) (L : List (PP S)) (lates : List (Nat × Nat × Nat)) (tmps : Array Value) (pre : List Nat) (k : Nat) (o : Oper) : Prop :=
  ∀ f w1, (if pre.contains k then Ext w w1 else ChgS (sts.map (·.g)) w w1) → PostsOf (postD w sts L) f w1 o.after.toList → LateFacts tmps f k lates →
    match stAt sts k with
    | some x => w1.heap[x.g]? = w.heap[x.g]? → OpGoal P o ⟨fr f, df⟩ f w1 (Chg x.g) (fun _ w2 => ∃ cs, Bx x.t w2 x.g cs ∧ x.F.p (.agg cs) w2)
    | none => OpGoal P o ⟨fr f, df⟩ f w1 Ext (L.getD k PP.any).p
def OwesD {S : Nat} (P : Program) (fr : (Nat → Value) → Array Value) (df : List Deferred) (w : World) (sts : List (St S)) (L : List (PP S)) (lates : List (Nat × Nat × Nat)) (tmps : Array Value) (pre : List Nat) : List Oper → Nat → Prop
  | [], _ => True
  | o :: l, k => OweD P fr df w sts L lates tmps pre k o ∧ OwesD P fr df w sts L lates tmps pre l (k + 1)
theorem owesD_at {S : Nat} {P : Program} {fr : (Nat → Value) → Array Value} {df : List Deferred} {w : World} {sts : List (St S)} {L : List (PP S)} {lates : List (Nat × Nat × Nat)} {tmps : Array Value} {pre : List Nat} :
    ∀ (l : List Oper) (k : Nat), OwesD P fr df w sts L lates tmps pre l k → ∀ i o, l[i]? = some o → OweD P fr df w sts L lates tmps pre (k + i) o
  | [], _, _, i, o, h => by simp at h
  | x :: l, k, hs, i, o, h => by
    cases i with
    | zero =>
      simp only [List.getElem?_cons_zero, Option.some.injEq] at h
      subst h
      exact hs.1
    | succ i =>
      have := owesD_at l (k + 1) hs.2 i o (by simpa using h)
      rwa [show k + 1 + i = k + (i + 1) by omega] at this

/-- A REGION THAT DRAWS ITS ORDER, CALLS, AND STORES INTO BLOCKS THAT WERE THERE WHEN IT BEGAN. -/
theorem wp_region_puts {P : Program} {id : Nat} {l : List Oper} {Q : Exit → Act → World → Prop} {tmps : Array Value} {df : List Deferred} {w : World} {fr : (Nat → Value) → Array Value}
    (sts : List (St w.heap.size)) (L : List (PP w.heap.size)) (lates : List (Nat × Nat × Nat)) (pre : List Nat)
    (hm : P.follows .mixedOrders = true) (hok : (regOk l.toArray tmps.size && lateOk l.toArray lates && (sts.map (·.s)).all fun s => ancOk l.toArray [s] (pre.filter (· != s))) = true)
    (hfr : ∀ f, fillR l.toArray tmps f = fr f)
    (hlt : ∀ x ∈ sts, x.g < w.heap.size ∧ x.F.c = false) (hs : ∀ x ∈ sts, stAt sts x.s = some x) (hne : ∀ x ∈ sts, ∀ y ∈ sts, x.s ≠ y.s → x.g ≠ y.g)
    (hstep : OwesD P fr df w sts L lates tmps pre l 0)
    (hend : ∀ f w1, ChgS (sts.map (·.g)) w w1 → AllPosts (postD w sts L) f w1 l.length 0 → Q .normal ⟨fr f, df⟩ w1) :
    (Code.region id l.toArray true).wp P Q ⟨tmps, df⟩ w := by
  simp only [Bool.and_eq_true] at hok
  obtain ⟨⟨hok1, hok2⟩, hok3⟩ := hok
  have key : ∀ {w1 w2 : World} {g : Nat}, ChgS (sts.map (·.g)) w w1 → w1.heap[g]? = w.heap[g]? → Chg g w1 w2 → Ext w w2 → g < w.heap.size → Ext w w1 ∧ Ext w1 w2 := by
    intro w1 w2 g hG hg hR hE hgl
    have e1 : Ext w w1 := ⟨hG.1, hG.2.1, hG.2.2.1, hG.2.2.2.1, fun i hi _ => by
      by_cases hig : i = g
      · rw [hig]; exact hg
      · rw [← hR.heap (Nat.lt_of_lt_of_le hi hG.2.2.2.1) hig]; exact hE.heap hi⟩
    refine ⟨e1, World.grownBy.os hR, World.grownBy.tape hR, World.grownBy.output hR, hR.size, fun i hi _ => ?_⟩
    by_cases hig : i = g
    · rw [hig, hE.heap hgl, hg]
    · exact hR.heap hi hig
  refine wp_region_posts (D := fun _ _ _ => True) (G := ChgS (sts.map (·.g))) (G0 := fun s w w1 => w.heap.size ≤ w1.heap.size ∧ ∀ x, stAt sts s = some x → w1.heap[x.g]? = w.heap[x.g]?)
    (R := fun i w1 w2 => match stAt sts i with | some x => Chg x.g w1 w2 ∧ w1.heap[x.g]? = w.heap[x.g]? | none => Ext w1 w2) (post := postD w sts L) hm hok1 (fun _ => trivial) ((Ext.refl w).drew.chgS _) (fun s => ⟨(Ext.refl w).drew.size, fun _ _ => rfl⟩) ?_ ?_ ?_ ?_ ?_
  · intro i w1 w2 hG hR
    cases hx : stAt sts i with
    | none => rw [hx] at hR; exact hG.trans (hR.chgS _)
    | some x => rw [hx] at hR; exact hG.trans (hR.1.chgS (List.mem_map.2 ⟨x, (stAt_mem hx).1, rfl⟩))
  · intro s i w1 w2 his h hR
    have hsz : w1.heap.size ≤ w2.heap.size := by
      cases hx : stAt sts i with
      | none => rw [hx] at hR; exact hR.size
      | some x => rw [hx] at hR; exact hR.1.size
    refine ⟨Nat.le_trans h.1 hsz, fun y hy => ?_⟩
    have hyl := (hlt y (stAt_mem hy).1).1
    cases hx : stAt sts i with
    | none => rw [hx] at hR; exact (hR.heap (by have := h.1; omega)).trans (h.2 y hy)
    | some x =>
      rw [hx] at hR
      have := hne y (stAt_mem hy).1 x (stAt_mem hx).1 (by rw [(stAt_mem hy).2, (stAt_mem hx).2]; omega)
      exact (hR.1.heap (by have := h.1; omega) this).trans (h.2 y hy)
  · intro i j v w1 w2 hij hG hR hp
    unfold postD at hp ⊢
    cases hxj : stAt sts j with
    | none =>
      rw [hxj] at hR
      cases hxi : stAt sts i with
      | some x =>
        rw [hxi] at hp
        obtain ⟨cs, h1, h2⟩ := hp
        exact ⟨cs, h1.ext hR, x.F.m _ _ _ hR h2⟩
      | none =>
        rw [hxi] at hp
        intro hE
        refine (L.getD i PP.any).m _ _ _ hR (hp fun hc => ?_)
        have hE := hE hc
        exact ⟨hG.1, hG.2.1, hG.2.2.1, hG.2.2.2.1, fun k hk _ => by rw [← hR.heap (Nat.lt_of_lt_of_le hk hG.2.2.2.1)]; exact hE.heap hk⟩
    | some x =>
      rw [hxj] at hR
      have hxl := hlt x (stAt_mem hxj).1
      cases hxi : stAt sts i with
      | some y =>
        rw [hxi] at hp
        obtain ⟨cs, h1, h2⟩ := hp
        have := hne y (stAt_mem hxi).1 x (stAt_mem hxj).1 (by rw [(stAt_mem hxi).2, (stAt_mem hxj).2]; omega)
        exact ⟨cs, h1.chg hR.1 this, y.F.m2 (hlt y (stAt_mem hxi).1).2 _ hxl.1 _ _ _ hR.1 h2⟩
      | none =>
        rw [hxi] at hp
        intro hE
        cases hc : (L.getD i PP.any).c with
        | true =>
          obtain ⟨e1, e2⟩ := key hG hR.2 hR.1 (hE hc) hxl.1
          exact (L.getD i PP.any).m _ _ _ e2 (hp fun _ => e1)
        | false => exact (L.getD i PP.any).m2 hc _ hxl.1 _ _ _ hR.1 (hp fun h => by rw [hc] at h; cases h)
  · intro i o ho listed f w1 _ _ _ hG hpre hp hl
    have hO := owesD_at l 0 hstep i o (by simpa using ho)
    rw [Nat.zero_add] at hO
    rw [hfr]
    have hE : (if pre.contains i then Ext w w1 else ChgS (sts.map (·.g)) w w1) := by
      split
      · rename_i hpi
        refine ⟨hG.1, hG.2.1, hG.2.2.1, hG.2.2.2.1, fun k hk _ => ?_⟩
        by_cases hk2 : k ∈ sts.map (·.g)
        · obtain ⟨x, hx, rfl⟩ := List.mem_map.1 hk2
          have hxs := List.all_eq_true.1 hok3 x.s (List.mem_map.2 ⟨x, hx, rfl⟩)
          have hanc : Anc l.toArray i x.s := by
            by_cases his : i = x.s
            · rw [his]; exact .self
            · refine anc_of _ [x.s] (fun j hj => ?_) hxs i (List.mem_filter.2 ⟨by simpa using hpi, by simpa using his⟩)
              have : j = x.s := by simpa using hj
              rw [this]; exact .self
          have h2 := (hpre x.s hanc).2
          exact h2 x (hs x hx)
        · exact hG.2.2.2.2 k hk hk2
      · exact hG
    have hg := hO f w1 hE (postsOf_of _ fun e he hb => hp e (Array.mem_toList_iff.1 he) hb) (lateFacts_of hl lates hok2)
    unfold postD
    cases hx : stAt sts i with
    | none =>
      simp only [hx] at hg
      exact OpGoal.mono (fun _ h => by simp only [hx]; exact h) (fun v w' _ h => ⟨by simp only [hx]; exact fun _ => h, trivial⟩) (fun h => ⟨by simp only [hx]; exact fun _ => h, trivial⟩) hg
    | some x =>
      simp only [hx] at hg
      have h0 := (hpre i .self).2 x hx
      exact OpGoal.mono (fun w' h => by simp only [hx]; exact ⟨h, h0⟩) (fun v w' _ h => ⟨by simp only [hx]; exact h, trivial⟩) (fun h => ⟨by simp only [hx]; exact h, trivial⟩) (hg h0)
  · intro f w1 hG hp _
    rw [hfr]
    exact hend f w1 hG (allPosts_of _ _ fun i _ hi => hp i (by simpa using hi))
/-- What is told of an operation that lies ahead, if it is a value. -/
theorem tE {S : Nat} {w w1 : World} {sts : List (St S)} {L : List (PP S)} {f : Nat → Value} {l : List Edge} {v : Value} (hp : PostsOf (postD w sts L) f w1 l) (n j : Nat)
    (h : (match l[n]? with | some e => Region.binds .any e && e.on == j | none => false) = true) (hs : stAt sts j = none) (hv : L[j]? = some (PP.val v)) : f j = v := by
  have hL : L.getD j PP.any = PP.val v := by rw [List.getD_eq_getElem?_getD, hv]; rfl
  have := tellV hp n j h hs (by rw [hL]; intro h; cases h)
  rw [hL] at this
  exact this
theorem wpP {P : Program} {id : Nat} {l : List Oper} {Q : Exit → Act → World → Prop} {tmps : Array Value} {df : List Deferred} {w : World} {fr : (Nat → Value) → Array Value}
    (sts : List (St w.heap.size)) (L : List (PP w.heap.size)) (lates : List (Nat × Nat × Nat)) (pre : List Nat)
    (hlt : ∀ x ∈ sts, x.g < w.heap.size ∧ x.F.c = false) (hs : ∀ x ∈ sts, stAt sts x.s = some x) (hne : ∀ x ∈ sts, ∀ y ∈ sts, x.s ≠ y.s → x.g ≠ y.g)
    (hstep : OwesD P fr df w sts L lates tmps pre l 0)
    (hend : ∀ f w1, ChgS (sts.map (·.g)) w w1 → AllPosts (postD w sts L) f w1 l.length 0 → Q .normal ⟨fr f, df⟩ w1)
    (hm : P.follows .mixedOrders = true := by kernel_rfl) (hok : (regOk l.toArray tmps.size && lateOk l.toArray lates && (sts.map (·.s)).all fun s => ancOk l.toArray [s] (pre.filter (· != s))) = true := by kernel_rfl)
    (hfr : ∀ f, fillR l.toArray tmps f = fr f := by intro f; simp only [fillR, fillL, List.setIfInBounds_toArray, List.set_cons_succ, List.set_cons_zero, Nat.reduceAdd]; rfl) :
    (Code.region id l.toArray true).wp P Q ⟨tmps, df⟩ w := wp_region_puts sts L lates pre hm hok hfr hlt hs hne hstep hend
/-- Nothing is stored. -/
theorem wpQ {P : Program} {id : Nat} {l : List Oper} {Q : Exit → Act → World → Prop} {tmps : Array Value} {df : List Deferred} {w : World} {fr : (Nat → Value) → Array Value}
    (L : List (PP w.heap.size)) (lates : List (Nat × Nat × Nat)) (pre : List Nat)
    (hstep : OwesD P fr df w [] L lates tmps pre l 0)
    (hend : ∀ f w1, ChgS (([] : List (St w.heap.size)).map (·.g)) w w1 → AllPosts (postD w [] L) f w1 l.length 0 → Q .normal ⟨fr f, df⟩ w1)
    (hm : P.follows .mixedOrders = true := by kernel_rfl) (hok : (regOk l.toArray tmps.size && lateOk l.toArray lates && (([] : List (St w.heap.size)).map (·.s)).all fun s => ancOk l.toArray [s] (pre.filter (· != s))) = true := by kernel_rfl)
    (hfr : ∀ f, fillR l.toArray tmps f = fr f := by intro f; simp only [fillR, fillL, List.setIfInBounds_toArray, List.set_cons_succ, List.set_cons_zero, Nat.reduceAdd]; rfl) :
    (Code.region id l.toArray true).wp P Q ⟨tmps, df⟩ w := wp_region_puts [] L lates pre hm hok hfr (fun x hx => by cases hx) (fun x hx => by cases hx) (fun x hx => by cases hx) hstep hend
end Go.Proofs.Ytnefipinicfegaa
