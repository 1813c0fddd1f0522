/-
  A region that draws its order and changes two blocks, one by one operation, the other by another. Plain.
-/
import Derived.Test.YtnefipinicfegaaDivG
namespace Go.Proofs.Ytnefipinicfegaa
open Go.RowKit
set_option linter.unusedVariables false
set_option linter.unusedSimpArgs false

/-- All blocks but two are as they were. -/
def Chg2 (g1 g2 : Nat) (w w' : World) : Prop := w'.os = w.os ∧ w'.tape = w.tape ∧ w'.output = w.output ∧ w.heap.size ≤ w'.heap.size ∧ ∀ k, k < w.heap.size → k ≠ g1 → k ≠ g2 → w'.heap[k]? = w.heap[k]?
theorem Chg2.refl (g1 g2 : Nat) (w : World) : Chg2 g1 g2 w w := ⟨rfl, rfl, rfl, Nat.le_refl _, fun _ _ _ _ => rfl⟩
theorem Chg2.trans {g1 g2 : Nat} {a b c : World} (h : Chg2 g1 g2 a b) (k : Chg2 g1 g2 b c) : Chg2 g1 g2 a c :=
  ⟨k.1.trans h.1, k.2.1.trans h.2.1, k.2.2.1.trans h.2.2.1, Nat.le_trans h.2.2.2.1 k.2.2.2.1, fun i hi n1 n2 => (k.2.2.2.2 i (Nat.lt_of_lt_of_le hi h.2.2.2.1) n1 n2).trans (h.2.2.2.2 i hi n1 n2)⟩
theorem Chg.two1 {g1 : Nat} (g2 : Nat) {a b : World} (h : Chg g1 a b) : Chg2 g1 g2 a b := ⟨World.grownBy.os h, World.grownBy.tape h, World.grownBy.output h, h.size, fun _ hk n1 _ => h.heap hk n1⟩
theorem Chg.two2 (g1 : Nat) {g2 : Nat} {a b : World} (h : Chg g2 a b) : Chg2 g1 g2 a b := ⟨World.grownBy.os h, World.grownBy.tape h, World.grownBy.output h, h.size, fun _ hk _ n2 => h.heap hk n2⟩
theorem Ext.two (g1 g2 : Nat) {a b : World} (h : Ext a b) : Chg2 g1 g2 a b := (h.chg g1).two1 g2
theorem Chg2.blk {g1 g2 : Nat} {w w' : World} (h : Chg2 g1 g2 w w') {g : Nat} {o : Obj} (hv : w.heap[g]? = some o) (h1 : g ≠ g1) (h2 : g ≠ g2) : w'.heap[g]? = some o := (h.2.2.2.2 g (blk_lt hv) h1 h2).trans hv
theorem Ext.step2 {a w w' : World} {g1 g2 : Nat} (h : Ext a w) (k : Chg2 g1 g2 w w') (h1 : a.heap.size ≤ g1) (h2 : a.heap.size ≤ g2) : Ext a w' :=
  ⟨k.1.trans (World.grownBy.os h), k.2.1.trans (World.grownBy.tape h), k.2.2.1.trans (World.grownBy.output h), Nat.le_trans h.size k.2.2.2.1, fun i hi _ => (k.2.2.2.2 i (Nat.lt_of_lt_of_le hi h.size) (by omega) (by omega)).trans (h.heap hi)⟩

/-- A REGION THAT CHANGES BLOCK g1 BY OPERATION s1 AND BLOCK g2 BY OPERATION s2. -/
theorem wp_region_two {P : Program} {id : Nat} {l : List Oper} {Q : Exit → Act → World → Prop} {tmps : Array Value} {df : List Deferred} {w : World} {fr : (Nat → Value) → Array Value}
    (g1 s1 g2 s2 : Nat) (hs12 : s1 ≠ s2) (L : List (Value → World → Prop)) (lates : List (Nat × Nat × Nat)) (pres : List (Nat × Nat))
    (hm : P.follows .mixedOrders = true) (hok : (regOk l.toArray tmps.size && lateOk l.toArray lates && preOk l.toArray pres) = true) (hfr : ∀ f, fillR l.toArray tmps f = fr f)
    (hmono : AllMono Ext L) (hmono1 : AllMonoBut (Chg g1) s1 L) (hmono2 : AllMonoBut (Chg g2) s2 L)
    (hstep : StepsL P fr lates pres tmps df w (Chg2 g1 g2) (fun j => if j = s1 then Chg g2 else if j = s2 then Chg g1 else fun _ _ => True) (fun j => if j = s1 then Chg g1 else if j = s2 then Chg g2 else Ext) (pl L) l 0)
    (hend : ∀ f w1, Chg2 g1 g2 w w1 → AllPosts (pl L) f w1 l.length 0 → Q .normal ⟨fr f, df⟩ w1) :
    (Code.region id l.toArray true).wp P Q ⟨tmps, df⟩ w := by
  refine wp_region_go (Chg2 g1 g2) (fun j => if j = s1 then Chg g2 else if j = s2 then Chg g1 else fun _ _ => True) (fun j => if j = s1 then Chg g1 else if j = s2 then Chg g2 else Ext) (pl L) lates pres hm hok hfr ((Ext.refl w).drew.two g1 g2) ?_ ?_ ?_ ?_ hstep hend
  · intro s
    split
    · exact (Ext.refl w).drew.chg g2
    · split
      · exact (Ext.refl w).drew.chg g1
      · trivial
  · intro i a b h k
    by_cases h1 : i = s1
    · rw [if_pos h1] at k; exact h.trans (k.two1 g2)
    · rw [if_neg h1] at k
      by_cases h2 : i = s2
      · rw [if_pos h2] at k; exact h.trans (k.two2 g1)
      · rw [if_neg h2] at k; exact h.trans (k.two g1 g2)
  · intro s i a b hi h k
    by_cases e1 : s = s1
    · subst e1
      rw [if_pos rfl] at h ⊢
      rw [if_neg hi] at k
      by_cases h2 : i = s2
      · rw [if_pos h2] at k; exact h.trans k
      · rw [if_neg h2] at k; exact h.trans (k.chg g2)
    · rw [if_neg e1] at h ⊢
      by_cases e2 : s = s2
      · subst e2
        rw [if_pos rfl] at h ⊢
        by_cases h1 : i = s1
        · rw [if_pos h1] at k; exact h.trans k
        · rw [if_neg h1, if_neg hi] at k; exact h.trans (k.chg g1)
      · rw [if_neg e2]; trivial
  · intro i j v a b hij _ k hp
    by_cases h1 : j = s1
    · rw [if_pos h1] at k; exact allMonoBut_at s1 L hmono1 i (by omega) v a b k hp
    · rw [if_neg h1] at k
      by_cases h2 : j = s2
      · rw [if_pos h2] at k; exact allMonoBut_at s2 L hmono2 i (by omega) v a b k hp
      · rw [if_neg h2] at k; exact allMono_at L hmono i v a b k hp
end Go.Proofs.Ytnefipinicfegaa
