/-
  Memory: what a call leaves as it was; what a slice reads as; what a call owns. Plain: no program is named here.
-/
import Derived.WalkKit
import Derived.Lib.Hide
import Derived.Deep.QuietTactic
import Derived.Test.YtnefipinicfegaaNum
namespace Go.Proofs.Ytnefipinicfegaa
open Go.RowKit
set_option linter.unusedVariables false
set_option linter.unusedSimpArgs false

/-- All blocks that were there are as they were. -/
def Ext (w w' : World) : Prop := w.grownBy w' none
/-- All blocks but g are as they were. -/
def Chg (g : Nat) (w w' : World) : Prop := w.grownBy w' (some g)

theorem Ext.refl (w : World) : Ext w w := ⟨rfl, rfl, rfl, Nat.le_refl _, fun _ _ _ => rfl⟩
theorem Ext.size {w w' : World} (h : Ext w w') : w.heap.size ≤ w'.heap.size := World.grownBy.size h
theorem Ext.heap {w w' : World} (h : Ext w w') {k : Nat} (hk : k < w.heap.size) : w'.heap[k]? = w.heap[k]? := World.grownBy.block h k hk (by simp)
theorem Ext.trans {a b c : World} (h : Ext a b) (k : Ext b c) : Ext a c :=
  ⟨(World.grownBy.os k).trans (World.grownBy.os h), (World.grownBy.tape k).trans (World.grownBy.tape h), (World.grownBy.output k).trans (World.grownBy.output h), Nat.le_trans h.size k.size, fun i hi _ => (k.heap (Nat.lt_of_lt_of_le hi h.size)).trans (h.heap hi)⟩
theorem Ext.drew {a w : World} (h : Ext a w) : Ext a w.drew := h.trans ⟨rfl, rfl, rfl, Nat.le_refl _, fun _ _ _ => rfl⟩
theorem Ext.of_drew {a w : World} (h : Ext w.drew a) : Ext w a := ((Ext.refl w).drew).trans h
theorem Ext.drews {a w : World} (h : Ext a w) (n : Nat) : Ext a (w.drewN n) := h.trans ⟨rfl, rfl, rfl, Nat.le_refl _, fun _ _ _ => rfl⟩
theorem Ext.alloc {a w : World} (h : Ext a w) (o : Obj) : Ext a (w.alloc o) :=
  h.trans ⟨rfl, rfl, rfl, by simp, fun k hk _ => Below.heap_alloc _ _ _ hk⟩
theorem Ext.setCell {a w : World} (h : Ext a w) {p : Addr} (hp : a.heap.size ≤ p.block) (u : Value) : Ext a (w.setCell p u) :=
  ⟨(show (w.setCell p u).os = w.os from rfl).trans (World.grownBy.os (w := a) (w' := w) h), (show (w.setCell p u).tape = w.tape from rfl).trans (World.grownBy.tape (w := a) (w' := w) h), (show (w.setCell p u).output = w.output from rfl).trans (World.grownBy.output (w := a) (w' := w) h), by have := h.size; simpa [World.setCell] using this, fun k hk _ => by rw [Below.heap_setCell _ _ _ _ (by omega)]; exact h.heap hk⟩
theorem Chg.size {g : Nat} {w w' : World} (h : Chg g w w') : w.heap.size ≤ w'.heap.size := World.grownBy.size h
theorem Chg.heap {g : Nat} {w w' : World} (h : Chg g w w') {k : Nat} (hk : k < w.heap.size) (hne : k ≠ g) : w'.heap[k]? = w.heap[k]? := World.grownBy.block h k hk (by simpa using hne)
theorem Chg.refl (g : Nat) (w : World) : Chg g w w := ⟨rfl, rfl, rfl, Nat.le_refl _, fun _ _ _ => rfl⟩
theorem Chg.trans {g : Nat} {a b c : World} (h : Chg g a b) (k : Chg g b c) : Chg g a c :=
  ⟨(World.grownBy.os k).trans (World.grownBy.os h), (World.grownBy.tape k).trans (World.grownBy.tape h), (World.grownBy.output k).trans (World.grownBy.output h), Nat.le_trans h.size k.size, fun i hi hne => (World.grownBy.block k i (Nat.lt_of_lt_of_le hi h.size) hne).trans (World.grownBy.block h i hi hne)⟩
theorem Ext.chg (g : Nat) {w w' : World} (h : Ext w w') : Chg g w w' := ⟨World.grownBy.os h, World.grownBy.tape h, World.grownBy.output h, h.size, fun _ hk _ => h.heap hk⟩
theorem Chg.setCell (w : World) (g i : Nat) (u : Value) : Chg g w (w.setCell ⟨g, i, none⟩ u) :=
  ⟨rfl, rfl, rfl, by simp [World.setCell], fun k _ hne => Below.heap_setCell _ _ _ _ (by simpa using hne)⟩
/-- A change of a block of one's own is none of what was there. -/
theorem Ext.step {a w w' : World} {g : Nat} (h : Ext a w) (k : Chg g w w') (hg : a.heap.size ≤ g) : Ext a w' :=
  ⟨(World.grownBy.os k).trans (World.grownBy.os h), (World.grownBy.tape k).trans (World.grownBy.tape h), (World.grownBy.output k).trans (World.grownBy.output h), Nat.le_trans h.size k.size, fun i hi _ => (k.heap (Nat.lt_of_lt_of_le hi h.size) (by omega)).trans (h.heap hi)⟩
theorem Ext.of_grown {w w' : World} {row : Option Nat} (h : w.grownBy w' row) (hr : ∀ k, row = some k → w.heap.size ≤ k) : Ext w w' :=
  ⟨World.grownBy.os h, World.grownBy.tape h, World.grownBy.output h, World.grownBy.size h, fun k hk _ => World.grownBy.block h k hk (fun e => by have := hr k e.symm; omega)⟩
theorem Ext.below {w w' : World} (h : Ext w w') : Below w.heap.size w w' := ⟨World.grownBy.os h, World.grownBy.tape h, World.grownBy.output h, h.size, fun _ hk => h.heap hk⟩
theorem Ext.of_below {w w' : World} (h : Below w.heap.size w w') : Ext w w' := ⟨h.os, h.tape, h.output, h.size, fun k hk _ => h.block k hk⟩
theorem Ext.cell {w w' : World} (h : Ext w w') {a : Addr} {v : Value} (hv : w.cell? a = some v) : w'.cell? a = some v :=
  (World.cell?_of_block (h.heap (World.block_lt_of_cell? w a hv))).trans hv
theorem Ext.blk {w w' : World} (h : Ext w w') {g : Nat} {o : Obj} (hv : w.heap[g]? = some o) : w'.heap[g]? = some o :=
  (h.heap (Array.getElem?_eq_some_iff.1 hv).1).trans hv
theorem Chg.blk {g0 : Nat} {w w' : World} (h : Chg g0 w w') {g : Nat} {o : Obj} (hv : w.heap[g]? = some o) (hne : g ≠ g0) : w'.heap[g]? = some o :=
  (h.heap (Array.getElem?_eq_some_iff.1 hv).1 hne).trans hv
theorem blk_lt {w : World} {g : Nat} {o : Obj} (hv : w.heap[g]? = some o) : g < w.heap.size := (Array.getElem?_eq_some_iff.1 hv).1
theorem Ext.cells {w w' : World} (h : Ext w w') : ∀ b o, b < w.heap.size → w'.cell? ⟨b, o, none⟩ = w.cell? ⟨b, o, none⟩ := fun b o hb => World.cell?_of_block (w := w) (h.heap (k := b) hb)
theorem Ext.frozen {w w' : World} (h : Ext w w') : ∀ b o, b < w.heap.size → w'.frozen? ⟨b, o, none⟩ = w.frozen? ⟨b, o, none⟩ := fun b o hb => World.frozen?_of_block (w := w) (h.heap (k := b) hb)

/-- The slice at ad reads as xs (elements of one cell). -/
def Rd (w : World) (ad : Option Addr) (xs : List Value) : Prop :=
  xs = [] ∨ ∃ b off, ad = some ⟨b, off, none⟩ ∧ ∀ i v, xs[i]? = some v → w.cell? ⟨b, off + i, none⟩ = some v

theorem Rd.ext {w w' : World} {ad : Option Addr} {xs : List Value} (h : Rd w ad xs) (he : Ext w w') : Rd w' ad xs := by
  rcases h with h | ⟨b, off, h1, h2⟩
  · exact .inl h
  · exact .inr ⟨b, off, h1, fun i v hi => he.cell (h2 i v hi)⟩
theorem Rd.nil (w : World) (ad : Option Addr) : Rd w ad [] := .inl rfl
theorem Rd.at {w : World} {ad : Option Addr} {xs : List Value} (h : Rd w ad xs) (hne : 0 < xs.length) : ∃ b off, ad = some ⟨b, off, none⟩ ∧ ∀ i v, xs[i]? = some v → w.cell? ⟨b, off + i, none⟩ = some v := by
  rcases h with h | h
  · subst h; simp at hne
  · exact h
theorem Rd.take {w : World} {ad : Option Addr} {xs : List Value} (h : Rd w ad xs) (n : Nat) : Rd w ad (xs.take n) := by
  rcases h with h | ⟨b, off, h1, h2⟩
  · exact .inl (by simp [h])
  · exact .inr ⟨b, off, h1, fun i v hi => h2 i v (by rw [List.getElem?_take] at hi; split at hi; exact hi; cases hi)⟩
theorem Rd.drop {w : World} {b off : Nat} {xs : List Value} (h : ∀ i v, xs[i]? = some v → w.cell? ⟨b, off + i, none⟩ = some v) (n : Nat) : Rd w (some ⟨b, off + n, none⟩) (xs.drop n) :=
  .inr ⟨b, off + n, rfl, fun i v hi => by rw [List.getElem?_drop] at hi; have := h _ _ hi; rwa [← Nat.add_assoc] at this⟩

theorem Rd.cut {w : World} {ad : Option Addr} {xs : List Value} (h : Rd w ad xs) (m cap : Nat) (hc : xs.length ≤ cap) : Rd w (if cap = m then ad else Option.map (fun (x : Addr) => x.add m) ad) (xs.drop m) := by
  rcases h with h | ⟨b, off, h1, h2⟩
  · subst h; exact .inl (by simp)
  · by_cases hcm : cap = m
    · exact .inl (List.drop_eq_nil_of_le (by omega))
    · rw [if_neg hcm, h1]
      have e : (⟨b, off, none⟩ : Addr).add m = ⟨b, off + m, none⟩ := by
        unfold Addr.add; split <;> simp_all
      simp only [Option.map_some, e]
      exact Rd.drop h2 m
theorem Rd.addr {w w' : World} {ad : Option Addr} {xs : List Value} (h : Rd w ad xs) (a : Addr) (ha : ad = some a) (he : Ext w w') : ∀ j u, xs[j]? = some u → w'.cell? (a.add j) = some u := by
  intro j u hj
  rcases h with h | ⟨b, off, h1, h2⟩
  · subst h; simp at hj
  · rw [ha] at h1
    cases h1
    have := he.cell (h2 j u hj)
    unfold Addr.add
    split
    · subst_vars; exact this
    · exact this

/-- What a call hands back in memory of its own: all of it lies in block g, from B on; or it has no place at all. -/
def Own (e : TypeId) (B : Nat) (w : World) (ad : Option Addr) (cap : Nat) (xs : List Value) : Prop :=
  (xs = [] ∧ cap = 0 ∧ ad = none) ∨ ∃ g cur, ad = some ⟨g, 0, none⟩ ∧ B ≤ g ∧ w.heap[g]? = some (.cells cur e (0, 0)) ∧ cur.size = cap ∧ cur.toList.take xs.length = xs

theorem Own.rd {e : TypeId} {B : Nat} {w : World} {ad : Option Addr} {cap : Nat} {xs : List Value} (h : Own e B w ad cap xs) : Rd w ad xs := by
  rcases h with ⟨h, _⟩ | ⟨g, cur, h1, _, h3, _, h5⟩
  · exact .inl h
  · refine .inr ⟨g, 0, h1, fun i v hi => ?_⟩
    rw [Nat.zero_add, cell_of_row w g i cur e _ h3]
    rw [← h5, List.getElem?_take] at hi
    split at hi
    · simpa using hi
    · cases hi
theorem Own.ext {e : TypeId} {B : Nat} {w w' : World} {ad : Option Addr} {cap : Nat} {xs : List Value} (h : Own e B w ad cap xs) (he : Ext w w') : Own e B w' ad cap xs := by
  rcases h with h | ⟨g, cur, h1, h2, h3, h4⟩
  · exact .inl h
  · exact .inr ⟨g, cur, h1, h2, he.blk h3, h4⟩
theorem Own.mono {e : TypeId} {B B' : Nat} {w : World} {ad : Option Addr} {cap : Nat} {xs : List Value} (h : Own e B w ad cap xs) (hB : B' ≤ B) : Own e B' w ad cap xs := by
  rcases h with h | ⟨g, cur, h1, h2, h3⟩
  · exact .inl h
  · exact .inr ⟨g, cur, h1, Nat.le_trans hB h2, h3⟩
theorem Own.take {e : TypeId} {B : Nat} {w : World} {ad : Option Addr} {cap : Nat} {xs : List Value} (h : Own e B w ad cap xs) (n : Nat) : Own e B w ad cap (xs.take n) := by
  rcases h with ⟨h, h'⟩ | ⟨g, cur, h1, h2, h3, h4, h5⟩
  · exact .inl ⟨by simp [h], h'⟩
  · refine .inr ⟨g, cur, h1, h2, h3, h4, ?_⟩
    have : xs.take n = (cur.toList.take xs.length).take n := by rw [h5]
    rw [this, List.take_take, List.length_take]
    have hl : xs.length ≤ cur.toList.length := by
      have := congrArg List.length h5
      rw [List.length_take] at this
      omega
    congr 1
    omega
theorem Own.chg {e : TypeId} {B : Nat} {w w' : World} {ad : Option Addr} {cap : Nat} {xs : List Value} {g : Nat} (h : Own e B w ad cap xs) (he : Chg g w w') (hg : g < B) : Own e B w' ad cap xs := by
  rcases h with h | ⟨g', cur, h1, h2, h3, h4⟩
  · exact .inl h
  · exact .inr ⟨g', cur, h1, h2, he.blk h3 (by omega), h4⟩

/-- The greatest length that is looked at. -/
def LIM : IntKind → Nat
  | .i64 => 1099511627776
  | _ => 17592186044160
/-- The greatest length of a list on the way. -/
def BIG : Nat := 17592186044416
theorem BIG_eq : BIG = 17592186044416 := rfl
theorem LIM_eq : LIM .u64 = 17592186044160 := rfl
theorem LIM_eqT : LIM .i64 = 1099511627776 := rfl
theorem LIM_pos (k : IntKind) : 1 ≤ LIM k := by cases k <;> decide
/-- What a word counts up to. -/
def W : Nat := 18446744073709551616
theorem W_eq : W = 18446744073709551616 := rfl
theorem W_gt : 1 < W := by rw [W_eq]; omega

def vals (k : IntKind) (xs : List Nat) : List Value := xs.map fun (x : Nat) => Value.int k (x : Int)
theorem vals_length (k : IntKind) (xs : List Nat) : (vals k xs).length = xs.length := by simp [vals]
theorem vals_get (k : IntKind) (xs : List Nat) (i : Nat) (h : i < xs.length) : (vals k xs)[i]? = some (.int k (xs[i] : Int)) := by simp [vals, h]
theorem vals_take (k : IntKind) (xs : List Nat) (n : Nat) : vals k (xs.take n) = (vals k xs).take n := by simp [vals, List.map_take]
theorem vals_drop (k : IntKind) (xs : List Nat) (n : Nat) : vals k (xs.drop n) = (vals k xs).drop n := by simp [vals, List.map_drop]
theorem vals_append (k : IntKind) (xs ys : List Nat) : vals k (xs ++ ys) = vals k xs ++ vals k ys := by simp [vals]
theorem vals_set (k : IntKind) (xs : List Nat) (i y : Nat) : (vals k xs).set i (.int k (y : Int)) = vals k (xs.set i y) := by simp [vals, List.map_set]
theorem vals_nil {k : IntKind} {xs : List Nat} : vals k xs = [] ↔ xs = [] := by simp [vals]

/-- v is a slice of numbers of kind k that reads as the places xs. -/
def IsL (k : IntKind) (w : World) (v : Value) (xs : List Nat) : Prop :=
  ∃ ad cap, v = .slice ad xs.length cap ∧ xs.length ≤ cap ∧ cap ≤ 9223372036854775807 ∧ Rd w ad (vals k xs)
/-- .. and tells n, in base B, in whatever form. -/
def IsN (k : IntKind) (B : Nat) (w : World) (v : Value) (n : Nat) : Prop := ∃ xs, IsL k w v xs ∧ xs.length ≤ LIM k ∧ Dig B xs ∧ val B xs = n
/-- .. in the one form, and in memory of the call's own. -/
def FrL (e : TypeId) (k : IntKind) (B0 : Nat) (w : World) (v : Value) (xs : List Nat) : Prop :=
  ∃ ad cap, v = .slice ad xs.length cap ∧ xs.length ≤ cap ∧ cap ≤ 9223372036854775807 ∧ Own e B0 w ad cap (vals k xs)

theorem IsL.ext {k : IntKind} {w w' : World} {v : Value} {xs : List Nat} (h : IsL k w v xs) (he : Ext w w') : IsL k w' v xs := by
  obtain ⟨ad, cap, h1, h2, h3, h4⟩ := h
  exact ⟨ad, cap, h1, h2, h3, h4.ext he⟩
theorem IsN.ext {k : IntKind} {B : Nat} {w w' : World} {v : Value} {n : Nat} (h : IsN k B w v n) (he : Ext w w') : IsN k B w' v n := by
  obtain ⟨xs, h1, h2⟩ := h
  exact ⟨xs, h1.ext he, h2⟩
theorem FrL.isL {e : TypeId} {k : IntKind} {B0 : Nat} {w : World} {v : Value} {xs : List Nat} (h : FrL e k B0 w v xs) : IsL k w v xs := by
  obtain ⟨ad, cap, h1, h2, h3, h4⟩ := h
  exact ⟨ad, cap, h1, h2, h3, h4.rd⟩
theorem FrL.ext {e : TypeId} {k : IntKind} {B0 : Nat} {w w' : World} {v : Value} {xs : List Nat} (h : FrL e k B0 w v xs) (he : Ext w w') : FrL e k B0 w' v xs := by
  obtain ⟨ad, cap, h1, h2, h3, h4⟩ := h
  exact ⟨ad, cap, h1, h2, h3, h4.ext he⟩
theorem FrL.mono {e : TypeId} {k : IntKind} {B0 B1 : Nat} {w : World} {v : Value} {xs : List Nat} (h : FrL e k B0 w v xs) (hB : B1 ≤ B0) : FrL e k B1 w v xs := by
  obtain ⟨ad, cap, h1, h2, h3, h4⟩ := h
  exact ⟨ad, cap, h1, h2, h3, h4.mono hB⟩
theorem FrL.chg {e : TypeId} {k : IntKind} {B0 g : Nat} {w w' : World} {v : Value} {xs : List Nat} (h : FrL e k B0 w v xs) (he : Chg g w w') (hg : g < B0) : FrL e k B0 w' v xs := by
  obtain ⟨ad, cap, h1, h2, h3, h4⟩ := h
  exact ⟨ad, cap, h1, h2, h3, h4.chg he hg⟩

/-- A number in the one form, in memory of the call's own. -/
def FrN (e : TypeId) (k : IntKind) (B : Nat) (B0 : Nat) (w : World) (v : Value) (n : Nat) : Prop := FrL e k B0 w v (dg B n)
/-- A number in the one form. -/
def IsC (k : IntKind) (B : Nat) (w : World) (v : Value) (n : Nat) : Prop := IsL k w v (dg B n)
/-- How many places a number has. -/
def sz (B n : Nat) : Nat := (dg B n).length

theorem IsC.isN {k : IntKind} {B : Nat} (hB : 1 < B) {w : World} {v : Value} {n : Nat} (h : IsC k B w v n) (hs : sz B n ≤ LIM k) : IsN k B w v n :=
  ⟨dg B n, h, hs, (dg_can hB n).1, dg_val hB n⟩
theorem FrN.isC {e : TypeId} {k : IntKind} {B B0 : Nat} {w : World} {v : Value} {n : Nat} (h : FrN e k B B0 w v n) : IsC k B w v n := FrL.isL h
theorem IsC.ext {k : IntKind} {B : Nat} {w w' : World} {v : Value} {n : Nat} (h : IsC k B w v n) (he : Ext w w') : IsC k B w' v n := IsL.ext h he
theorem FrN.ext {e : TypeId} {k : IntKind} {B B0 : Nat} {w w' : World} {v : Value} {n : Nat} (h : FrN e k B B0 w v n) (he : Ext w w') : FrN e k B B0 w' v n := FrL.ext h he
theorem FrN.mono {e : TypeId} {k : IntKind} {B B0 B1 : Nat} {w : World} {v : Value} {n : Nat} (h : FrN e k B B0 w v n) (hB : B1 ≤ B0) : FrN e k B B1 w v n := FrL.mono h hB
theorem FrN.chg {e : TypeId} {k : IntKind} {B B0 g : Nat} {w w' : World} {v : Value} {n : Nat} (h : FrN e k B B0 w v n) (he : Chg g w w') (hg : g < B0) : FrN e k B B0 w' v n := FrL.chg h he hg
theorem IsN.len {k : IntKind} {B : Nat} (hB : 1 < B) {w : World} {v : Value} {n : Nat} (h : IsN k B w v n) : sz B n ≤ LIM k := by
  obtain ⟨xs, _, h2, h3, h4⟩ := h
  rw [← h4]
  exact Nat.le_trans (dg_len_val hB h3) h2

theorem own_of_row {w : World} {B : Nat} {e : TypeId} {v : Value} {n : Nat} {xs : List Value} (h : w.ownsRow B e 1 v n xs) : ∃ ad cap, v = .slice ad xs.length cap ∧ xs.length ≤ cap ∧ cap ≤ 9223372036854775807 ∧ Own e B w ad cap xs := by
  obtain ⟨h1, h2⟩ := h
  rw [Nat.mul_one] at h1 h2
  rcases h2 with ⟨rfl, rfl⟩ | ⟨g, cap, cur, rfl, hg, hh, hn, hm, hs, ht⟩
  · have : xs = [] := List.eq_nil_of_length_eq_zero h1
    subst this
    exact ⟨none, 0, rfl, Nat.le_refl _, by omega, .inl ⟨rfl, rfl, rfl⟩⟩
  · subst h1
    exact ⟨_, cap, rfl, hn, by simpa [maxLen] using hm, .inr ⟨g, cur, rfl, hg, hh, by omega, ht⟩⟩

theorem own_frl {w : World} {B : Nat} {e : TypeId} {k : IntKind} {v : Value} {n : Nat} {xs : List Nat} (h : w.ownsRow B e 1 v n (vals k xs)) : FrL e k B w v xs := by
  obtain ⟨ad, cap, h1, h2, h3, h4⟩ := own_of_row h
  rw [vals_length] at h1 h2
  exact ⟨ad, cap, h1, h2, h3, h4⟩
/-- Block g holds the numbers xs, and behind them the rest. -/
def BlkAt (e : TypeId) (k : IntKind) (w : World) (g : Nat) (xs : List Nat) (rest : List Value) : Prop := w.heap[g]? = some (.cells (vals k xs ++ rest).toArray e (0, 0))
section
variable {w : World} {g : Nat} {k : IntKind} {xs : List Nat} {rest : List Value} {e : TypeId}
theorem BlkAt.cell (h : BlkAt e k w g xs rest) (i : Nat) (hi : i < xs.length) : w.cell? ⟨g, i, none⟩ = some (.int k (xs[i] : Int)) := by
  rw [cell_of_row w g i _ e _ h]
  have := vals_get k xs i hi
  rw [List.getElem?_toArray, List.getElem?_append_left (by rw [vals_length]; exact hi), this]
theorem BlkAt.got (h : BlkAt e k w g xs rest) (i : Nat) (hi : i < xs.length) : ∃ u, w.cell? ⟨g, i, none⟩ = some u := ⟨_, h.cell i hi⟩
theorem BlkAt.free (h : BlkAt e k w g xs rest) (i : Nat) : w.frozen? ⟨g, i, none⟩ = false := frozen_of_row w g i _ e h
theorem BlkAt.set (h : BlkAt e k w g xs rest) (i y : Nat) (hi : i < xs.length) : BlkAt e k (w.setCell ⟨g, i, none⟩ (.int k (y : Int))) g (xs.set i y) rest := by
  unfold BlkAt
  rw [heap_setCell_same w g i _ e _ h]
  congr 2
  rw [← vals_set]
  simp [List.set_append, vals_length, hi]
theorem BlkAt.lt (h : BlkAt e k w g xs rest) : g < w.heap.size := blk_lt h
theorem BlkAt.ext {w' : World} (h : BlkAt e k w g xs rest) (he : Ext w w') : BlkAt e k w' g xs rest := he.blk h
theorem BlkAt.chg {w' : World} {g0 : Nat} (h : BlkAt e k w g xs rest) (he : Chg g0 w w') (hne : g ≠ g0) : BlkAt e k w' g xs rest := he.blk h hne
theorem BlkAt.rd (h : BlkAt e k w g xs rest) : Rd w (some ⟨g, 0, none⟩) (vals k xs) :=
  .inr ⟨g, 0, rfl, fun i v hi => by
    rw [Nat.zero_add, cell_of_row w g i _ e _ h]
    have hl : i < (vals k xs).length := (List.getElem?_eq_some_iff.1 hi).1
    simp only [List.getElem?_toArray, List.getElem?_append, hl, if_true]
    exact hi⟩
theorem BlkAt.own {B0 cap : Nat} (h : BlkAt e k w g xs rest) (hg : B0 ≤ g) (hc : xs.length + rest.length = cap) : Own e B0 w (some ⟨g, 0, none⟩) cap (vals k xs) :=
  .inr ⟨g, _, rfl, hg, h, by simp [vals_length, hc], by simp⟩
theorem BlkAt.frL {B0 cap : Nat} (h : BlkAt e k w g xs rest) (hg : B0 ≤ g) (hc : xs.length + rest.length = cap) (hm : cap ≤ 9223372036854775807) (n : Nat) (hn : n ≤ xs.length) :
    FrL e k B0 w (.slice (some ⟨g, 0, none⟩) n cap) (xs.take n) := by
  refine ⟨_, cap, by rw [List.length_take, Nat.min_eq_left hn], by rw [List.length_take]; omega, hm, ?_⟩
  rw [vals_take]
  exact (h.own hg hc).take n
theorem BlkAt.frN {B0 cap B n : Nat} (h : BlkAt e k w g xs rest) (hg : B0 ≤ g) (hB : 1 < B) (d : Dig B xs) (hv : val B xs = n) (hc : xs.length + rest.length = cap) (hm : cap ≤ 9223372036854775807) :
    FrN e k B B0 w (.slice (some ⟨g, 0, none⟩) (tz xs).length cap) n := by
  have h1 := h.frL hg hc hm (tz xs).length (tz_length_le xs)
  have ht := tz_eq_dg hB d
  rw [hv] at ht
  rw [tz_take] at h1
  unfold FrN
  rw [← ht]
  exact h1
end
/-- Of what a call has handed back: its block, written out. -/
theorem FrL.blk {e : TypeId} {k : IntKind} {B0 : Nat} {w : World} {v : Value} {xs : List Nat} (h : FrL e k B0 w v xs) (hne : 0 < xs.length) :
    ∃ g rest cap, v = .slice (some ⟨g, 0, none⟩) xs.length cap ∧ B0 ≤ g ∧ BlkAt e k w g xs rest ∧ xs.length + rest.length = cap ∧ cap ≤ 9223372036854775807 := by
  obtain ⟨ad, cap, rfl, h2, h3, h4⟩ := h
  rcases h4 with ⟨h4, _⟩ | ⟨g, cur, rfl, hg, hh, hs, ht⟩
  · rw [vals_nil.1 h4] at hne; simp at hne
  · refine ⟨g, cur.toList.drop xs.length, cap, rfl, hg, ?_, ?_, h3⟩
    · unfold BlkAt
      rw [hh]
      congr 2
      rw [vals_length] at ht
      rw [← ht, List.take_append_drop]
    · have hl := congrArg List.length ht
      have e1 : cur.toList.length = cur.size := Array.length_toList
      rw [List.length_take, vals_length] at hl
      rw [List.length_drop]; omega
/-- make([]T, n): a new block of n zero elements. -/
theorem wpList_make_new {P : Program} (w : World) {ops : Array Oper} {rest : List Oper} {o : Oper} {a : Act} {Q : Exit → Act → World → Prop}
    (hg : o.guard = none) (l c : Operand) (t : TypeId) (hop : o.op = Op.makeSlice t l c)
    (e : TypeId) (z : Value) (bytes : Nat) (h1 : P.underlying t = some (.slice e)) (h2 : (P.info? e).map (fun i => (i.zero, i.size, i.bytes)) = some (some z, 1, bytes)) (hz : z.cells = #[z])
    (kl kc : IntKind) (L C : Int) (n : Nat) (hl : a.eval l = .int kl L) (hc : a.eval c = .int kc C) (hL : L = (n : Int)) (hC : C = (n : Int)) (b2 : bytes * n ≤ 281474976710656) (b3 : n ≤ maxLen)
    (hK : ∀ w' g, Ext w w' → w.heap.size ≤ g → w'.heap[g]? = some (.cells (List.replicate n z).toArray e (0, 0)) → wpList P ops Q rest (a.put o.dst (.slice (some ⟨g, 0, none⟩) n n)) w') :
    wpList P ops Q (o :: rest) a w := by
  obtain ⟨i, hi, hz0, hz1, hz2⟩ := info_parts h2
  subst hz2
  refine wpList_make_full w hg l c t hop w.heap.size e i z 1 h1 hi hz0 hz1 kl kc L C n hl hc hL hC b2 b3 (Nat.le_refl _) (fun w' hown hgr => ?_)
  refine hK w' w.heap.size hgr (Nat.le_refl _) ?_
  rw [hz, Nat.mul_one, toList_madeCells_one] at hown
  rcases hown.2 with ⟨hv, _⟩ | ⟨g, cap, cur, hv, _, hb, _, _, hsz, htake⟩
  · cases hv
  · simp only [Value.slice.injEq, Option.some.injEq, Addr.mk.injEq, and_true] at hv
    obtain ⟨rfl, _, rfl⟩ := hv
    rw [hb]
    congr 1
    congr 1
    rw [Nat.mul_one] at htake hsz
    rw [List.take_of_length_le (by simp [hsz])] at htake
    rw [← htake]

/-- make([]T, n) of numbers. -/
theorem wpList_make_vals {P : Program} (w : World) {ops : Array Oper} {rest : List Oper} {o : Oper} {a : Act} {Q : Exit → Act → World → Prop}
    (hg : o.guard = none) (l c : Operand) (t : TypeId) (hop : o.op = Op.makeSlice t l c)
    (e : TypeId) (k : IntKind) (bytes : Nat) (h1 : P.underlying t = some (.slice e)) (h2 : (P.info? e).map (fun i => (i.zero, i.size, i.bytes)) = some (some (.int k 0), 1, bytes))
    (kl kc : IntKind) (L C : Int) (n : Nat) (hl : a.eval l = .int kl L) (hc : a.eval c = .int kc C) (hL : L = (n : Int)) (hC : C = (n : Int)) (b2 : bytes * n ≤ 281474976710656) (b3 : n ≤ 9223372036854775807)
    (hK : ∀ w' g, Ext w w' → w.heap.size ≤ g → BlkAt e k w' g (List.replicate n 0) [] → wpList P ops Q rest (a.put o.dst (.slice (some ⟨g, 0, none⟩) n n)) w') :
    wpList P ops Q (o :: rest) a w :=
  wpList_make_new w hg l c t hop e (.int k 0) bytes h1 h2 rfl kl kc L C n hl hc hL hC b2 (by unfold maxLen; omega) fun w' g he hb hh => hK w' g he hb (by unfold BlkAt; rw [hh]; simp [vals])

theorem FrL.owns {e : TypeId} {k : IntKind} {B0 : Nat} {w : World} {v : Value} {xs : List Nat} (h : FrL e k B0 w v xs) : w.ownsRow B0 e 1 v xs.length (vals k xs) := by
  obtain ⟨ad, cap, rfl, h2, h3, h4⟩ := h
  refine ⟨by rw [vals_length, Nat.mul_one], ?_⟩
  rcases h4 with ⟨h, h', h''⟩ | ⟨g, cur, h1, hg, hh, hs, ht⟩
  · have := vals_nil.1 h
    subst this h' h''
    exact .inl ⟨rfl, rfl⟩
  · subst h1
    exact .inr ⟨g, cap, cur, rfl, hg, hh, h2, by unfold maxLen; omega, by omega, by rw [Nat.mul_one]; rw [vals_length] at ht; exact ht⟩
theorem BlkAt.fr {w : World} {g : Nat} {k : IntKind} {xs : List Nat} {rest : List Value} {e : TypeId} {B0 cap : Nat} (h : BlkAt e k w g xs rest) (hg : B0 ≤ g) (hc : xs.length + rest.length = cap) (hm : cap ≤ 9223372036854775807) :
    FrL e k B0 w (.slice (some ⟨g, 0, none⟩) xs.length cap) xs := by
  have := h.frL hg hc hm xs.length (Nat.le_refl _)
  rwa [List.take_of_length_le (Nat.le_refl _)] at this
theorem vals_one (k : IntKind) (zs : List Nat) : ∀ u ∈ vals k zs, u.oneCell' = true := by
  intro u hu
  obtain ⟨x, _, rfl⟩ := List.mem_map.1 hu
  rfl
theorem FrL.block {e : TypeId} {k : IntKind} {B0 : Nat} {w : World} {v : Value} {xs : List Nat} (h : FrL e k B0 w v xs) : ∀ g, v.ownBlock = some g → B0 ≤ g := fun g hg => (h.owns.lt g hg).1

theorem run_append_nothing {P : Program} {w : World} (base : Nat) (t ty e : TypeId) (i : TypeInfo) (size c : Nat) (ht : P.underlying t = some (.slice e)) (hi : P.info? e = some i)
    (v : Value) (n : Nat) (xs : List Value) (hown : w.ownsRow base e size v n xs) :
    (Builtin.append_ #[t, t] ty #[v, .slice none 0 c]).run P w = .ok v w := by
  have e0 : (Builtin.append_ #[t, t] ty #[v, .slice none 0 c]) = (Builtin.append_ #[t, t] ty #[v, .slice none 0 0]) := rfl
  rw [e0]
  exact run_append_owned_none w base t ty e i size ht hi v n xs hown

/-- append(out, ys...), out the call's own, ys whatever. -/
theorem wpList_append_fr {P : Program} (w : World) {ops : Array Oper} {rest : List Oper} {o : Oper} {a : Act} {Q : Exit → Act → World → Prop}
    (hgd : o.guard = none) (s x : Operand) (t : TypeId) (ho : o.op = .call { callee := .builtin .append, args := #[s, x], argTypes := #[t, t] })
    (e : TypeId) (k : IntKind) (bytes : Nat) (h1 : P.underlying t = some (.slice e)) (h2 : (P.info? e).map (fun i => (i.zero, i.size, i.bytes)) = some (some (.int k 0), 1, bytes))
    (B0 : Nat) (v : Value) (xs ys : List Nat) (ad : Option Addr) (m c : Nat) (hs : a.eval s = v) (hx : a.eval x = .slice ad m c) (hm : ys.length = m)
    (hfr : FrL e k B0 w v xs) (hrd : Rd w ad (vals k ys)) (hb : (xs.length + m) * bytes ≤ 140737488355328) (hl : xs.length + m ≤ 9223372036854775807) (hB : B0 ≤ w.heap.size)
    (hK : ∀ v' w', FrL e k B0 w' v' (xs ++ ys) → w.grownBy w' v.ownBlock → wpList P ops Q rest (a.put o.dst v') w') :
    wpList P ops Q (o :: rest) a w := by
  obtain ⟨i, hi, hz0, hz1, hz2⟩ := info_parts h2
  subst hm
  cases ad with
  | none =>
    have hy : ys = [] := by
      rcases hrd with h | ⟨_, _, h, _⟩
      · exact vals_nil.1 h
      · cases h
    subst hy
    refine wpList_plain hgd fun K hK' => ?_
    have hrun := run_append_nothing (P := P) (w := w) B0 t o.type e i 1 c h1 hi v xs.length _ hfr.owns
    unfold Oper.wp
    simp [execOp, ho, resolve, invoke, builtin, hs, hx, hrun, Result.andThen]
    exact hK' _ _ (hK v w (by simpa using hfr) ⟨rfl, rfl, rfl, Nat.le_refl _, fun _ _ _ => rfl⟩)
  | some ad =>
    refine wpList_append_own w hgd s x t ho B0 e i (.int k 0) 1 bytes h1 hi hz0 hz1 hz2 rfl (by decide) v xs.length (vals k xs) hs hfr.owns ad ys.length c (vals k ys) hx (by rw [vals_length, Nat.mul_one])
      (hrd.addr ad rfl (Ext.refl w)) (vals_one k ys) (by unfold maxLen; omega) hb hB (fun v' w' hown hgr _ => ?_)
    rw [← vals_append] at hown
    exact hK v' w' (own_frl hown) hgr

/-- make([]T, l, c) of numbers. -/
theorem wpList_make_lc {P : Program} (w : World) {ops : Array Oper} {rest : List Oper} {o : Oper} {a : Act} {Q : Exit → Act → World → Prop}
    (hg : o.guard = none) (l c : Operand) (t : TypeId) (hop : o.op = Op.makeSlice t l c)
    (e : TypeId) (k : IntKind) (bytes : Nat) (h1 : P.underlying t = some (.slice e)) (h2 : (P.info? e).map (fun i => (i.zero, i.size, i.bytes)) = some (some (.int k 0), 1, bytes))
    (kl kc : IntKind) (L C : Int) (n m : Nat) (hl : a.eval l = .int kl L) (hc : a.eval c = .int kc C) (hL : L = (n : Int)) (hC : C = ((n + m : Nat) : Int)) (b2 : bytes * (n + m) ≤ 281474976710656) (b3 : n + m ≤ 9223372036854775807)
    (hK : ∀ w' g, Ext w w' → w.heap.size ≤ g → BlkAt e k w' g (List.replicate n 0) (vals k (List.replicate m 0)) → wpList P ops Q rest (a.put o.dst (.slice (some ⟨g, 0, none⟩) n (n + m))) w') :
    wpList P ops Q (o :: rest) a w := by
  obtain ⟨i, hi, hz0, hz1, hz2⟩ := info_parts h2
  refine wpList_plain hg fun K hK' => ?_
  have hb' : (i.bytes : Int) * ((n + m : Nat) : Int) ≤ 281474976710656 := by rw [hz2]; have := b2; rw [← Int.natCast_mul]; omega
  have hrun := run_make (P := P) w t e i (.int k 0) h1 hi hz0 kl kc (n : Int) ((n + m : Nat) : Int) (by omega) (by omega) hb' (by omega)
  subst hL hC
  have e1 : (madeCells (Value.int k 0).cells (((n + m : Nat) : Int).toNat * i.size)) = (vals k (List.replicate n 0) ++ vals k (List.replicate m 0)).toArray := by
    rw [hz1, Nat.mul_one, Int.toNat_natCast]
    apply Array.ext'
    show (madeCells #[Value.int k 0] (n + m)).toList = _
    rw [toList_madeCells_one]
    simp [vals, List.replicate_append_replicate]
  rw [e1, Int.toNat_natCast, Int.toNat_natCast] at hrun
  unfold Oper.wp
  simp only [execOp, hop, hl, hc, Sem.run_bind, hrun, Result.andThen_ok, Sem.run_pure]
  exact hK' _ _ (hK _ w.heap.size ((Ext.refl w).alloc _) (Nat.le_refl _) (heap_alloc_new w _))

theorem Rd.new1 (w : World) (k : IntKind) (c : Nat) (e : TypeId) : Rd (w.alloc (.cells #[.int k (c : Int)] e)) (some ⟨w.heap.size, 0, none⟩) (vals k [c]) :=
  .inr ⟨_, 0, rfl, fun i v hi => by
    rw [Nat.zero_add, cell_of_row _ w.heap.size i _ e _ (heap_alloc_new w _)]
    simpa [vals] using hi⟩
theorem FrL.alloc {e : TypeId} {k : IntKind} {B0 : Nat} {w : World} {v : Value} {xs : List Nat} (h : FrL e k B0 w v xs) (o : Obj) : FrL e k B0 (w.alloc o) v xs := h.ext ((Ext.refl w).alloc o)

theorem frL_tz {e : TypeId} {k : IntKind} {B0 : Nat} {w : World} {ad : Option Addr} {cap : Nat} {xs : List Nat} (h : FrL e k B0 w (.slice ad xs.length cap) xs) : FrL e k B0 w (.slice ad (tz xs).length cap) (tz xs) := by
  obtain ⟨ad', cap', hv, h2, h3, h4⟩ := h
  simp only [Value.slice.injEq] at hv
  obtain ⟨rfl, _, rfl⟩ := hv
  refine ⟨ad, cap, rfl, Nat.le_trans (tz_length_le xs) h2, h3, ?_⟩
  rw [← tz_take, vals_take]
  exact h4.take _
theorem Ext.step_own {a w w' : World} {r : Option Nat} (h : Ext a w) (k : w.grownBy w' r) (hg : ∀ g, r = some g → a.heap.size ≤ g) : Ext a w' := by
  cases r with
  | none => exact h.trans k
  | some g => exact h.step k (hg g rfl)

/-- The slice that an index expression's place lies in. -/
theorem addr_lit (g i : Nat) : (⟨g, 0 + i, none⟩ : Addr) = ⟨g, i, none⟩ := by rw [Nat.zero_add]
end Go.Proofs.Ytnefipinicfegaa
