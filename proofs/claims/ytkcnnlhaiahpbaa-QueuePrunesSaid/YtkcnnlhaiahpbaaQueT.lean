/-
  A heap of nodes: plain: what moving a node up and down leaves. No program is named here.
-/
import Derived.WalkKit
import Derived.Lib.Small
import Derived.Test.YtkcnnlhaiahpbaaComT
import Derived.Test.YtkcnnlhaiahpbaaShelf
import Derived.ScopeJumps
namespace Go.Proofs.Ytkcnnlhaiahpbaa
set_option linter.unusedVariables false
set_option linter.unusedSimpArgs false

/-- A node: its number, its depth, what it costs at least. -/
structure Nd where
  id : Int
  depth : Int
  q : Rat
instance : Inhabited Nd := ⟨⟨0, 0, 0⟩⟩
/-- Does a come ahead of b? -/
def Lt (best : Bool) (a b : Nd) : Prop :=
  match best with
  | true => a.q < b.q ∨ (a.q = b.q ∧ (b.depth < a.depth ∨ (a.depth = b.depth ∧ a.id < b.id)))
  | false => b.depth < a.depth ∨ (a.depth = b.depth ∧ (a.q < b.q ∨ (a.q = b.q ∧ a.id < b.id)))
set_option maxRecDepth 100000 in
set_option maxHeartbeats 1000000 in
theorem Lt.irrefl (best : Bool) (a : Nd) : ¬ Lt best a a := by
  cases best <;> simp [Lt, Rat.lt_irrefl]
/-- b does not come ahead of a. -/
def Le (best : Bool) (a b : Nd) : Prop := ¬ Lt best b a
set_option maxRecDepth 100000 in
set_option maxHeartbeats 1000000 in
theorem Le.rfl' (best : Bool) (a : Nd) : Le best a a := Lt.irrefl best a
set_option maxRecDepth 100000 in
set_option maxHeartbeats 1000000 in
theorem rat_tri (a b : Rat) : a < b ∨ a = b ∨ b < a := by grind
set_option maxRecDepth 100000 in
set_option maxHeartbeats 1000000 in
theorem le_iff (best : Bool) (a b : Nd) : Le best a b ↔ (match best with
  | true => a.q < b.q ∨ (a.q = b.q ∧ (b.depth < a.depth ∨ (a.depth = b.depth ∧ a.id ≤ b.id)))
  | false => b.depth < a.depth ∨ (a.depth = b.depth ∧ (a.q < b.q ∨ (a.q = b.q ∧ a.id ≤ b.id)))) := by
  unfold Le
  cases best <;> simp only [Lt] <;> grind
set_option maxRecDepth 100000 in
set_option maxHeartbeats 1000000 in
theorem Le.trans {best : Bool} {a b c : Nd} (h : Le best a b) (k : Le best b c) : Le best a c := by
  rw [le_iff] at *
  cases best <;> simp only at * <;> grind
set_option maxRecDepth 100000 in
set_option maxHeartbeats 1000000 in
theorem Le.antisymm {best : Bool} {a b : Nd} (h : Le best a b) (k : Le best b a) : a = b := by
  rw [le_iff] at *
  obtain ⟨i, d, q⟩ := a
  obtain ⟨i2, d2, q2⟩ := b
  cases best <;> simp only at * <;> grind
set_option maxRecDepth 100000 in
set_option maxHeartbeats 1000000 in
theorem Lt.le {best : Bool} {a b : Nd} (h : Lt best a b) : Le best a b := by
  rw [le_iff]
  cases best <;> simp only [Lt] at * <;> grind

instance (best : Bool) (a b : Nd) : Decidable (Lt best a b) := by
  unfold Lt
  cases best <;> infer_instance
/-- The first that is not 0. -/
def or3 (x y z : Int) : Int := if x ≠ 0 then x else if y ≠ 0 then y else z
def cmpI (x y : Int) : Int := Lib.compareInt x y
def cmpQ (x y : Rat) : Int := if x < y then -1 else if x = y then 0 else 1
set_option maxRecDepth 100000 in
set_option maxHeartbeats 1000000 in
theorem or3_best (a b : Nd) : or3 (cmpQ a.q b.q) (cmpI b.depth a.depth) (cmpI a.id b.id) < 0 ↔ Lt true a b := by
  unfold or3 cmpQ cmpI Lib.compareInt Lt
  grind
set_option maxRecDepth 100000 in
set_option maxHeartbeats 1000000 in
theorem or3_deep (a b : Nd) : or3 (cmpI b.depth a.depth) (cmpQ a.q b.q) (cmpI a.id b.id) < 0 ↔ Lt false a b := by
  unfold or3 cmpQ cmpI Lib.compareInt Lt
  grind

/-- Each node below place k comes not ahead of the one above it. -/
def HpFrom (best : Bool) (d : Array Nd) (k : Nat) : Prop := ∀ j, 0 < j → j < d.size → k ≤ (j - 1) / 2 → Le best d[(j - 1) / 2]! d[j]!
set_option maxRecDepth 100000 in
set_option maxHeartbeats 1000000 in
theorem HpFrom.root {best : Bool} {d : Array Nd} (h : HpFrom best d 0) : ∀ j, j < d.size → Le best d[0]! d[j]! := by
  intro j
  induction j using Nat.strongRecOn with
  | ind j ih =>
    intro hj
    rcases Nat.eq_zero_or_pos j with rfl | h0
    · exact Le.rfl' _ _
    · exact (ih ((j - 1) / 2) (by omega) (by omega)).trans (h j h0 hj (Nat.zero_le _))

/-- On the way up: all but place i stand right. -/
def UpInv (best : Bool) (d : Array Nd) (i : Nat) : Prop :=
  (∀ j, 0 < j → j < d.size → j ≠ i → Le best d[(j - 1) / 2]! d[j]!) ∧ ∀ j, 0 < j → j < d.size → (j - 1) / 2 = i → 0 < i → Le best d[(i - 1) / 2]! d[j]!
/-- On the way down from place i, all from place k on looked at: all but what stands below i stand right. -/
def DownInv (best : Bool) (d : Array Nd) (k i : Nat) : Prop :=
  (∀ j, 0 < j → j < d.size → k ≤ (j - 1) / 2 → (j - 1) / 2 ≠ i → Le best d[(j - 1) / 2]! d[j]!) ∧ ∀ j, 0 < j → j < d.size → (j - 1) / 2 = i → 0 < i → k ≤ (i - 1) / 2 → Le best d[(i - 1) / 2]! d[j]!

set_option maxRecDepth 100000 in
set_option maxHeartbeats 1000000 in
theorem swp_get {d : Array Nd} {i j : Nat} (hi : i < d.size) (hj : j < d.size) (m : Nat) : (d.swap i j hi hj)[m]! = if m = i then d[j]! else if m = j then d[i]! else d[m]! := by
  by_cases hm : m < d.size
  · have hm' : m < (d.swap i j hi hj).size := by simpa using hm
    rw [getElem!_pos _ m hm', getElem!_pos d m hm, getElem!_pos d i hi, getElem!_pos d j hj, Array.getElem_swap]
  · have h1 : m ≠ i := fun h => hm (h ▸ hi)
    have h2 : m ≠ j := fun h => hm (h ▸ hj)
    rw [if_neg h1, if_neg h2, getElem!_neg _ m (by simpa using hm), getElem!_neg d m hm]

set_option maxRecDepth 100000 in
set_option maxHeartbeats 1000000 in
theorem UpInv.start {best : Bool} {d : Array Nd} {x : Nd} (h : HpFrom best d 0) : UpInv best (d.push x) d.size := by
  have hg : ∀ m, m < d.size → (d.push x)[m]! = d[m]! := fun m hm => by
    rw [getElem!_pos _ m (by simp; omega), getElem!_pos d m hm, Array.getElem_push_lt hm]
  constructor
  · intro j h0 hj hne
    have hj' : j < d.size := by simp at hj; omega
    rw [hg j hj', hg _ (by omega)]
    exact h j h0 hj' (Nat.zero_le _)
  · intro j h0 hj hp
    simp at hj
    omega
set_option maxRecDepth 100000 in
set_option maxHeartbeats 1000000 in
theorem UpInv.step {best : Bool} {d : Array Nd} {i : Nat} (h : UpInv best d i) (hi : i < d.size) (h0 : 0 < i) (hlt : Lt best d[i]! d[(i - 1) / 2]!) : UpInv best (d.swap i ((i - 1) / 2) hi (by omega)) ((i - 1) / 2) := by
  obtain ⟨h1, h2⟩ := h
  have hp : (i - 1) / 2 < d.size := by omega
  have hle := Lt.le hlt
  constructor
  · intro j hj0 hj hne
    have hj' : j < d.size := by simpa using hj
    rw [swp_get, swp_get]
    by_cases hji : j = i
    · subst hji
      rw [if_pos rfl, if_neg (by omega), if_pos rfl]
      exact hle
    · rw [if_neg hji, if_neg hne]
      by_cases hpi : (j - 1) / 2 = i
      · rw [if_pos hpi]
        exact h2 j hj0 hj' hpi h0
      · rw [if_neg hpi]
        by_cases hpp : (j - 1) / 2 = (i - 1) / 2
        · rw [if_pos hpp]
          refine Le.trans hle ?_
          rw [← hpp]
          exact h1 j hj0 hj' hji
        · rw [if_neg hpp]
          exact h1 j hj0 hj' hji
  · intro j hj0 hj hpj hpos
    have hj' : j < d.size := by simpa using hj
    have hgp : Le best d[((i - 1) / 2 - 1) / 2]! d[(i - 1) / 2]! := h1 _ hpos hp (by omega)
    rw [swp_get, swp_get]
    rw [if_neg (show ((i - 1) / 2 - 1) / 2 ≠ i by omega), if_neg (show ((i - 1) / 2 - 1) / 2 ≠ (i - 1) / 2 by omega)]
    by_cases hji : j = i
    · rw [if_pos hji]
      exact hgp
    · rw [if_neg hji, if_neg (show j ≠ (i - 1) / 2 by omega)]
      refine hgp.trans ?_
      have := h1 j hj0 hj' hji
      rwa [hpj] at this
set_option maxRecDepth 100000 in
set_option maxHeartbeats 1000000 in
theorem UpInv.step' {best : Bool} {d : Array Nd} {i m : Nat} (h : UpInv best d i) (hm : m = (i - 1) / 2) (hi : i < d.size) (hmd : m < d.size) (h0 : 0 < i) (hlt : Lt best d[i]! d[m]!) : UpInv best (d.swap i m hi hmd) m := by
  subst hm
  exact h.step hi h0 hlt
set_option maxRecDepth 100000 in
set_option maxHeartbeats 1000000 in
theorem UpInv.stop {best : Bool} {d : Array Nd} {i : Nat} (h : UpInv best d i) (hs : i = 0 ∨ ¬ Lt best d[i]! d[(i - 1) / 2]!) : HpFrom best d 0 := by
  intro j h0 hj _
  by_cases hji : j = i
  · subst hji
    exact hs.resolve_left (by omega)
  · exact h.1 j h0 hj hji

/-- The first of the three at i and below it. -/
def FirstOf (best : Bool) (d : Array Nd) (i f : Nat) : Prop :=
  (f = i ∨ f = 2 * i + 1 ∨ f = 2 * i + 2) ∧ f < d.size ∧ Le best d[f]! d[i]! ∧ (2 * i + 1 < d.size → Le best d[f]! d[2 * i + 1]!) ∧ (2 * i + 2 < d.size → Le best d[f]! d[2 * i + 2]!)
set_option maxRecDepth 100000 in
set_option maxHeartbeats 1000000 in
theorem DownInv.stop {best : Bool} {d : Array Nd} {k i : Nat} (h : DownInv best d k i) (hf : FirstOf best d i i) : HpFrom best d k := by
  intro j h0 hj hk
  by_cases hp : (j - 1) / 2 = i
  · rw [hp]
    rcases (show j = 2 * i + 1 ∨ j = 2 * i + 2 by omega) with rfl | rfl
    · exact hf.2.2.2.1 hj
    · exact hf.2.2.2.2 hj
  · exact h.1 j h0 hj hk hp
set_option maxRecDepth 100000 in
set_option maxHeartbeats 1000000 in
theorem DownInv.out {best : Bool} {d : Array Nd} {k i : Nat} (h : DownInv best d k i) (hi : d.size ≤ 2 * i + 1) : HpFrom best d k := by
  intro j h0 hj hk
  exact h.1 j h0 hj hk (by omega)
set_option maxRecDepth 100000 in
set_option maxHeartbeats 1000000 in
theorem DownInv.step {best : Bool} {d : Array Nd} {k i f : Nat} (h : DownInv best d k i) (hi : i < d.size) (hk : k ≤ i) (hf : FirstOf best d i f) (hne : f ≠ i) : DownInv best (d.swap i f hi hf.2.1) k f := by
  obtain ⟨h1, h2⟩ := h
  obtain ⟨hc, hfs, f0, f1, f2⟩ := hf
  have hpf : (f - 1) / 2 = i := by omega
  constructor
  · intro j hj0 hj hkj hne2
    have hj' : j < d.size := by simpa using hj
    rw [swp_get, swp_get]
    by_cases hpi : (j - 1) / 2 = i
    · rw [if_pos hpi, if_neg (show j ≠ i by omega)]
      by_cases hjf : j = f
      · rw [if_pos hjf]
        exact f0
      · rw [if_neg hjf]
        rcases (show j = 2 * i + 1 ∨ j = 2 * i + 2 by omega) with rfl | rfl
        · exact f1 hj'
        · exact f2 hj'
    · rw [if_neg hpi, if_neg hne2]
      by_cases hji : j = i
      · rw [if_pos hji]
        subst hji
        exact h2 f (by omega) hfs hpf hj0 hkj
      · rw [if_neg hji, if_neg (show j ≠ f by omega)]
        exact h1 j hj0 hj' hkj hpi
  · intro j hj0 hj hpj hpos hkf
    have hj' : j < d.size := by simpa using hj
    rw [swp_get, swp_get, hpf, if_pos rfl, if_neg (show j ≠ i by omega), if_neg (show j ≠ f by omega), ← hpj]
    exact h1 j hj0 hj' (by omega) (by omega)
set_option maxRecDepth 100000 in
set_option maxHeartbeats 1000000 in
theorem HpFrom.down {best : Bool} {d : Array Nd} {k : Nat} (h : HpFrom best d (k + 1)) : DownInv best d k k :=
  ⟨fun j h0 hj hk hne => h j h0 hj (by omega), fun j h0 hj hp hpos hk => by omega⟩
set_option maxRecDepth 100000 in
set_option maxHeartbeats 1000000 in
/-- The last one laid at the top: only the top may stand wrong. -/
theorem HpFrom.pop {best : Bool} {d : Array Nd} (h : HpFrom best d 0) (hs : 0 < d.size) : DownInv best ((d.set! 0 d[d.size - 1]!).pop) 0 0 := by
  have hg : ∀ m, 0 < m → m < d.size - 1 → ((d.set! 0 d[d.size - 1]!).pop)[m]! = d[m]! := fun m h0 hm => by
    have hm1 : m < ((d.set! 0 d[d.size - 1]!).pop).size := by rw [Array.size_pop, Array.size_set!]; exact hm
    rw [getElem!_pos _ m hm1, getElem!_pos d m (by omega), Array.getElem_pop]
    simp only [Array.set!_eq_setIfInBounds]
    rw [Array.getElem_setIfInBounds_ne (by omega) (by omega)]
  constructor
  · intro j h0 hj hk hne
    have hj' : j < d.size - 1 := by simpa using hj
    rw [hg j h0 hj', hg _ (by omega) (by omega)]
    exact h j h0 (by omega) (Nat.zero_le _)
  · intro j h0 hj hp hpos
    omega
end Go.Proofs.Ytkcnnlhaiahpbaa

/-
  Nodes: which comes ahead.
-/
namespace Go.Proofs.Ytkcnnlhaiahpbaa
open Go.RowKit
set_option linter.unusedVariables false
set_option linter.unusedSimpArgs false

set_option maxRecDepth 100000 in
set_option maxHeartbeats 1000000 in
/-- cmp.Or of three numbers. -/
theorem or_calls (g : Nat) (x y z : Int) (w : World) (hb : Bx 3 w g #[.int .i64 x, .int .i64 y, .int .i64 z]) :
    Calls Try.prog 129 #[.slice (some ⟨g, 0, none⟩) 3 3] w fun e w' => e = .returned (.int .i64 (or3 x y z)) ∧ Ext w w' := by
  obtain ⟨r, hr⟩ : ∃ r, r = or3 x y z := ⟨_, rfl⟩
  have Hr := Lib.hid hr
  rw [← hr]
  clear hr
  have hc0 : w.cell? ⟨g, 0, none⟩ = some (.int .i64 x) := hb.cell 0
  have hc1 : w.cell? ⟨g, 1, none⟩ = some (.int .i64 y) := hb.cell 1
  have hc2 : w.cell? ⟨g, 2, none⟩ = some (.int .i64 z) := hb.cell 2
  clear hb
  go_enter Try.func129, Try.ntmps129
  go_wp2_with fail
  go_loopw [8] (fun i wr => ∃ k : Nat, k ≤ 3 ∧ i = .int .i64 (k : Int) ∧ Hid ((0 < k → x = 0) ∧ (1 < k → y = 0) ∧ (2 < k → z = 0)) ∧ w = wr) (fun i _ => (3 - intOf i).toNat)
  case atStart => exact ⟨0, by omega, rfl, Lib.hid ⟨by omega, by omega, by omega⟩, rfl⟩
  case round =>
    obtain ⟨k, hk, rfl, hz, rfl⟩ := hrel
    rcases (show k = 0 ∨ k = 1 ∨ k = 2 ∨ k = 3 by omega) with rfl | rfl | rfl | rfl
    · by_cases hx : x = 0
      · have HX := Lib.hid hx
        subst hx
        go_wp2
        go_roundw
        case rel => exact ⟨1, by omega, rfl, Lib.hid ⟨fun _ => (by first | trivial | rfl), by omega, by omega⟩, (by first | rfl | trivial)⟩
        case measure => simp [intOf]
      · have hfin := Lib.hid (show r = x by rw [Hr.out]; unfold or3; rw [if_pos hx])
        go_wp2
        go_ret
        exact ⟨by rw [hfin.out]; rfl, Ext.refl _⟩
    · obtain ⟨h0, -, -⟩ := hz.out
      have hx := h0 (by omega)
      by_cases hy : y = 0
      · subst hy
        clear h0 hx
        go_wp2
        go_roundw
        case rel => exact ⟨2, by omega, rfl, Lib.hid ⟨fun _ => hz.out.1 (by omega), fun _ => (by first | trivial | rfl), by omega⟩, (by first | rfl | trivial)⟩
        case measure => simp [intOf]
      · have hfin := Lib.hid (show r = y by rw [Hr.out]; unfold or3; rw [if_neg (by simp [hx]), if_pos hy])
        clear h0 hx
        go_wp2
        go_ret
        exact ⟨by rw [hfin.out]; rfl, Ext.refl _⟩
    · obtain ⟨h0, h1, -⟩ := hz.out
      have hx := h0 (by omega)
      have hy := h1 (by omega)
      by_cases hzz : z = 0
      · subst hzz
        clear h0 hx h1 hy
        go_wp2
        go_roundw
        case rel => exact ⟨3, by omega, rfl, Lib.hid ⟨fun _ => hz.out.1 (by omega), fun _ => hz.out.2.1 (by omega), fun _ => (by first | trivial | rfl)⟩, (by first | rfl | trivial)⟩
        case measure => simp [intOf]
      · have hfin := Lib.hid (show r = z by rw [Hr.out]; unfold or3; rw [if_neg (by simp [hx]), if_neg (by simp [hy])])
        clear h0 hx h1 hy
        go_wp2
        go_ret
        exact ⟨by rw [hfin.out]; rfl, Ext.refl _⟩
    · obtain ⟨h0, h1, h2⟩ := hz.out
      have hfin := Lib.hid (show r = 0 by
        rw [Hr.out, h0 (by omega), h1 (by omega), h2 (by omega)]
        rfl)
      clear h0 h1 h2
      go_wp2
      go_ret
      exact ⟨by rw [hfin.out]; rfl, Ext.refl _⟩

/-- A node's value: its fraction in any form, of at most k words. -/
def NdR (k : Nat) (w : World) (v : Value) (x : Nd) : Prop := ∃ b a1 n1 c1 a2 n2 c2, v = .agg #[.int .i64 x.id, .int .i64 x.depth, .bool b, .slice a1 n1 c1, .slice a2 n2 c2] ∧ IsR w (.agg #[.bool b, .slice a1 n1 c1, .slice a2 n2 c2]) x.q k
set_option maxRecDepth 100000 in
set_option maxHeartbeats 1000000 in
theorem NdR.ext {k : Nat} {w w' : World} {v : Value} {x : Nd} (h : NdR k w v x) (he : Ext w w') : NdR k w' v x := by
  obtain ⟨b, a1, n1, c1, a2, n2, c2, h1, h2⟩ := h
  exact ⟨b, a1, n1, c1, a2, n2, c2, h1, h2.ext he⟩
/-- In the one form, in memory from block B on. -/
def NdV (B k : Nat) (w : World) (v : Value) (x : Nd) : Prop := ∃ b a1 n1 c1 a2 n2 c2, v = .agg #[.int .i64 x.id, .int .i64 x.depth, .bool b, .slice a1 n1 c1, .slice a2 n2 c2] ∧ FrQ B w (.agg #[.bool b, .slice a1 n1 c1, .slice a2 n2 c2]) x.q ∧ szQ x.q ≤ k
set_option maxRecDepth 100000 in
set_option maxHeartbeats 1000000 in
theorem NdV.ext {B k : Nat} {w w' : World} {v : Value} {x : Nd} (h : NdV B k w v x) (he : Ext w w') : NdV B k w' v x := by
  obtain ⟨b, a1, n1, c1, a2, n2, c2, h1, h2, h3⟩ := h
  exact ⟨b, a1, n1, c1, a2, n2, c2, h1, h2.ext he, h3⟩
set_option maxRecDepth 100000 in
set_option maxHeartbeats 1000000 in
theorem NdV.r {B k : Nat} {w : World} {v : Value} {x : Nd} (h : NdV B k w v x) (hk : k ≤ LIM) : NdR k w v x := by
  obtain ⟨b, a1, n1, c1, a2, n2, c2, h1, h2, h3⟩ := h
  exact ⟨b, a1, n1, c1, a2, n2, c2, h1, h2.isR h3 hk⟩
set_option maxRecDepth 100000 in
set_option maxHeartbeats 1000000 in
theorem cmpQ_eq (x y : Rat) : cmpQ x y = cmpR x y := rfl
/-- The order of a queue, as it is kept. -/
def ordV (best : Bool) : Int := if best then 0 else 1

set_option maxRecDepth 100000 in
set_option maxHeartbeats 1000000 in
theorem ahead_calls (p : Nat) (best : Bool) (hv va vb : Value) (a b : Nd) (k : Nat) (w : World) (hp : Bx 123 w p #[.int .i64 (ordV best), hv]) (ha : NdR k w va a) (hb : NdR k w vb b) (hk : k ≤ 34359738368) :
    Calls Try.prog 98 #[.pointer (some ⟨p, 0, none⟩), va, vb] w fun e w' => e = .returned (.bool (decide (Lt best a b))) ∧ Ext w w' := by
  obtain ⟨c1, a1, n1, k1, a2, n2, k2, rfl, ra⟩ := ha
  obtain ⟨c2, a3, n3, k3, a4, n4, k4, rfl, rb⟩ := hb
  have Ra := Lib.hid ra
  have Rb := Lib.hid rb
  have hbest := or3_best a b
  have hdeep := or3_deep a b
  obtain ⟨x, hx⟩ : ∃ x, x = cmpQ a.q b.q := ⟨_, rfl⟩
  obtain ⟨y, hy⟩ : ∃ y, y = cmpI b.depth a.depth := ⟨_, rfl⟩
  obtain ⟨z, hz⟩ : ∃ z, z = cmpI a.id b.id := ⟨_, rfl⟩
  rw [← hx, ← hy, ← hz] at hbest hdeep
  have Hx := Lib.hid hx.symm
  have Hy := Lib.hid hy.symm
  have Hz := Lib.hid hz.symm
  have Hbest := Lib.hid hbest
  have Hdeep := Lib.hid hdeep
  clear ra rb hx hy hz hbest hdeep
  obtain ⟨i1, d1, q1⟩ := a
  obtain ⟨i2, d2, q2⟩ := b
  go_enter Try.func98, Try.ntmps98
  obtain ⟨w1, hw1, e1, b1, b2, s1⟩ := alloc2 w #[.int .i64 i1, .int .i64 d1, .bool c1, .slice a1 n1 k1, .slice a2 n2 k2] #[.int .i64 i2, .int .i64 d2, .bool c2, .slice a3 n3 k3, .slice a4 n4 k4] 74 74
  go_wp2_with fail
  rw [← hw1]
  refine wp_region_puts [] [PP.val (.pointer (some ⟨w.heap.size, 2, none⟩)), PP.val (.agg #[.bool c1, .slice a1 n1 k1, .slice a2 n2 k2]), PP.val (.pointer (some ⟨(w.heap.size + 1), 2, none⟩)), PP.val (.agg #[.bool c2, .slice a3 n3 k3, .slice a4 n4 k4]), PP.val (.int .i64 x), PP.val (.pointer (some ⟨(w.heap.size + 1), 1, none⟩)), PP.val (.int .i64 d2), PP.val (.pointer (some ⟨w.heap.size, 1, none⟩)), PP.val (.int .i64 d1), PP.val (.int .i64 y), PP.val (.int .i64 x), PP.val (.int .i64 y)] [] [0, 1, 2, 3, 4, 5, 6, 7, 8, 9, 10, 11]
    (by kernel_rfl) (by kernel_rfl) (fun f => (by simp only [fillR, fillL, List.setIfInBounds_toArray, List.set_cons_succ, List.set_cons_zero, Nat.reduceAdd]; rfl)) ?_ ?_ ?_ ?_ ?_
  · intro x hx; cases hx
  · intro x hx; cases hx
  · intro x hx; cases hx
  · refine ⟨?o0, ?o1, ?o2, ?o3, ?o4, ?o5, ?o6, ?o7, ?o8, ?o9, ?o10, ?o11, trivial⟩
    case o0 =>
      intro f w2 hG hp hl
      have hE : Ext w1 w2 := hG
      have hS := hE.size
      simp only [OpGoal]
      go_simp
      exact ⟨_, rfl, Ext.refl _, rfl⟩
    case o1 =>
      intro f w2 hG hp hl
      have hE : Ext w1 w2 := hG
      have hS := hE.size
      have q10 : f 0 = .pointer (some ⟨w.heap.size, 2, none⟩) := tellV hp 0 0 rfl rfl (fun h => by cases h)
      have hbx := b1.ext hE
      have hcell0 := hbx.cell 0
      have hcell1 := hbx.cell 1
      have hcell2 := hbx.cell 2
      have hcell3 := hbx.cell 3
      have hcell4 := hbx.cell 4
      simp only [OpGoal]
      go_simp
      exact ⟨_, rfl, Ext.refl _, rfl⟩
    case o2 =>
      intro f w2 hG hp hl
      have hE : Ext w1 w2 := hG
      have hS := hE.size
      simp only [OpGoal]
      go_simp
      exact ⟨_, rfl, Ext.refl _, rfl⟩
    case o3 =>
      intro f w2 hG hp hl
      have hE : Ext w1 w2 := hG
      have hS := hE.size
      have q12 : f 2 = .pointer (some ⟨(w.heap.size + 1), 2, none⟩) := tellV hp 0 2 rfl rfl (fun h => by cases h)
      have hbx := b2.ext hE
      have hcell0 := hbx.cell 0
      have hcell1 := hbx.cell 1
      have hcell2 := hbx.cell 2
      have hcell3 := hbx.cell 3
      have hcell4 := hbx.cell 4
      simp only [OpGoal]
      go_simp
      exact ⟨_, rfl, Ext.refl _, rfl⟩
    case o4 =>
      intro f w2 hG hp hl
      have hE : Ext w1 w2 := hG
      have hS := hE.size
      have q11 : f 1 = .agg #[.bool c1, .slice a1 n1 k1, .slice a2 n2 k2] := tellV hp 0 1 rfl rfl (fun h => by cases h)
      have q13 : f 3 = .agg #[.bool c2, .slice a3 n3 k3, .slice a4 n4 k4] := tellV hp 1 3 rfl rfl (fun h => by cases h)
      change OpGoal _ _ _ f w2 Ext _
      refine og_call (P := Try.prog) _ _ _ #[f 1, f 3] Try.func53 (by kernel_rfl) (by kernel_rfl) rfl rfl (by kernel_rfl) ?_
      rw [q11, q13]
      refine (rcmp_calls _ _ q1 q2 k k _ (Ra.out.ext (e1.trans hE)) (Rb.out.ext (e1.trans hE)) (by omega)).mono ?_
      rw [← cmpQ_eq, Hx.out]
      rintro e w' ⟨rfl, h2⟩
      exact ⟨_, rfl, h2, rfl⟩
    case o5 =>
      intro f w2 hG hp hl
      have hE : Ext w1 w2 := hG
      have hS := hE.size
      simp only [OpGoal]
      go_simp
      exact ⟨_, rfl, Ext.refl _, rfl⟩
    case o6 =>
      intro f w2 hG hp hl
      have hE : Ext w1 w2 := hG
      have hS := hE.size
      have q15 : f 5 = .pointer (some ⟨(w.heap.size + 1), 1, none⟩) := tellV hp 0 5 rfl rfl (fun h => by cases h)
      have hcell := (b2.ext hE).cell 1
      simp only [OpGoal]
      go_simp
      exact ⟨_, rfl, Ext.refl _, rfl⟩
    case o7 =>
      intro f w2 hG hp hl
      have hE : Ext w1 w2 := hG
      have hS := hE.size
      simp only [OpGoal]
      go_simp
      exact ⟨_, rfl, Ext.refl _, rfl⟩
    case o8 =>
      intro f w2 hG hp hl
      have hE : Ext w1 w2 := hG
      have hS := hE.size
      have q17 : f 7 = .pointer (some ⟨w.heap.size, 1, none⟩) := tellV hp 0 7 rfl rfl (fun h => by cases h)
      have hcell := (b1.ext hE).cell 1
      simp only [OpGoal]
      go_simp
      exact ⟨_, rfl, Ext.refl _, rfl⟩
    case o9 =>
      intro f w2 hG hp hl
      have hE : Ext w1 w2 := hG
      have hS := hE.size
      have q16 : f 6 = .int .i64 d2 := tellV hp 0 6 rfl rfl (fun h => by cases h)
      have q18 : f 8 = .int .i64 d1 := tellV hp 1 8 rfl rfl (fun h => by cases h)
      change OpGoal _ _ _ f w2 Ext _
      refine og_call (P := Try.prog) _ _ _ #[f 6, f 8] Try.func128 (by kernel_rfl) (by kernel_rfl) rfl rfl (by kernel_rfl) ?_
      rw [q16, q18]
      refine (Try.cmp_Compare_int d2 d1 _).mono ?_
      rintro e w' ⟨rfl, rfl⟩
      exact ⟨_, rfl, Ext.refl _, congrArg (Value.int .i64) Hy.out⟩
    case o10 =>
      intro f w2 hG hp hl
      have hE : Ext w1 w2 := hG
      have hS := hE.size
      have q14 : f 4 = .int .i64 x := tellV hp 0 4 rfl rfl (fun h => by cases h)
      simp only [OpGoal]
      go_simp
      exact ⟨_, rfl, Ext.refl _, rfl⟩
    case o11 =>
      intro f w2 hG hp hl
      have hE : Ext w1 w2 := hG
      have hS := hE.size
      have q19 : f 9 = .int .i64 y := tellV hp 0 9 rfl rfl (fun h => by cases h)
      simp only [OpGoal]
      go_simp
      exact ⟨_, rfl, Ext.refl _, rfl⟩
  · intro f w2 hG hp
    have hE : Ext w1 w2 := ChgS.nil hG
    have q7 : f 10 = .int .i64 x := endV hp 10 (by decide) rfl (fun h => by cases h)
    try simp only [q7]
    have q8 : f 11 = .int .i64 y := endV hp 11 (by decide) rfl (fun h => by cases h)
    try simp only [q8]
    clear hp
    have B1 := b1.ext hE
    have B2 := b2.ext hE
    have E2 := e1.trans hE
    have P2 := hp.ext E2
    have hc0 := B1.cell 0
    have hd0 := B2.cell 0
    go_wp2_with fail
    refine (Try.cmp_Compare_int i1 i2 _).mono ?_
    rw [show Lib.compareInt i1 i2 = z from Hz.out]
    rintro e w3 ⟨rfl, rfl⟩
    clear hc0 hd0
    have hq0 := P2.cell 0
    cases best with
    | true =>
      obtain ⟨w4, hw4, e4, b4, s4⟩ := alloc1 w3 #[.int .i64 x, .int .i64 y, .int .i64 z] 3
      have hq : ordV true = 0 := rfl
      rw [hq] at hq0
      go_wp2_with fail
      rw [← hw4]
      refine (or_calls _ x y z _ b4).mono ?_
      obtain ⟨r, hr⟩ : ∃ r, r = or3 x y z := ⟨_, rfl⟩
      rw [← hr]
      have hfin := Lib.hid (show decide (Lt true ⟨i1, d1, q1⟩ ⟨i2, d2, q2⟩) = decide (r < 0) from decide_eq_decide.2 (by rw [hr]; exact Hbest.out.symm))
      clear hr
      rintro e w5 ⟨rfl, e5⟩
      go_wp2
      go_ret
      exact ⟨by rw [hfin.out]; rfl, E2.trans (e4.trans e5)⟩
    | false =>
      obtain ⟨w4, hw4, e4, b4, s4⟩ := alloc1 w3 #[.int .i64 y, .int .i64 x, .int .i64 z] 3
      have hq : ordV false = 1 := rfl
      rw [hq] at hq0
      go_wp2_with fail
      rw [← hw4]
      refine (or_calls _ y x z _ b4).mono ?_
      obtain ⟨r, hr⟩ : ∃ r, r = or3 y x z := ⟨_, rfl⟩
      rw [← hr]
      have hfin := Lib.hid (show decide (Lt false ⟨i1, d1, q1⟩ ⟨i2, d2, q2⟩) = decide (r < 0) from decide_eq_decide.2 (by rw [hr]; exact Hdeep.out.symm))
      clear hr
      rintro e w5 ⟨rfl, e5⟩
      go_wp2
      go_ret
      exact ⟨by rw [hfin.out]; rfl, E2.trans (e4.trans e5)⟩
end Go.Proofs.Ytkcnnlhaiahpbaa

/-
  A region that draws its order, calls, and stores into parts of blocks that were there when it began: several stores may go into one block.
-/
namespace Go.Proofs.Ytkcnnlhaiahpbaa
open Go.RowKit
set_option linter.unusedVariables false
set_option linter.unusedSimpArgs false

/-- A store: which operation, which block, what it does (R), what it finds (U: of the world at the beginning and now), what is told of it then (F). -/
structure Sm where
  s : Nat
  g : Nat
  R : World → World → Prop
  U : World → World → Prop
  F : Value → World → Prop
def smAt : List Sm → Nat → Option Sm
  | [], _ => none
  | x :: l, k => if k = x.s then some x else smAt l k
set_option maxRecDepth 100000 in
set_option maxHeartbeats 1000000 in
theorem smAt_mem {l : List Sm} {k : Nat} {x : Sm} (h : smAt l k = some x) : x ∈ l ∧ x.s = k := by
  induction l with
  | nil => cases h
  | cons y l ih =>
    simp only [smAt] at h
    split at h
    · cases h; exact ⟨List.mem_cons_self .., by omega⟩
    · exact ⟨List.mem_cons_of_mem _ (ih h).1, (ih h).2⟩
def postM {S : Nat} (sts : List Sm) (L : List (PP S)) (k : Nat) (v : Value) (w1 : World) : Prop :=
  match smAt sts k with
  | some x => x.F v w1
  | none => (L.getD k PP.any).p v w1
set_option maxRecDepth 100000 in
set_option maxHeartbeats 1000000 in
theorem tellM {S : Nat} {w1 : World} {sts : List Sm} {L : List (PP S)} {f : Nat → Value} {l : List Edge} (hp : PostsOf (postM sts L) f w1 l) (n j : Nat)
    (h : (match l[n]? with | some e => Region.binds .any e && e.on == j | none => false) = true) (hs : smAt sts j = none) : (L.getD j PP.any).p (f j) w1 := by
  have := postsOf_nth l n j h hp
  unfold postM at this
  rw [hs] at this
  exact this
set_option maxRecDepth 100000 in
set_option maxHeartbeats 1000000 in
theorem tellMS {S : Nat} {w1 : World} {sts : List Sm} {L : List (PP S)} {f : Nat → Value} {l : List Edge} {x : Sm} (hp : PostsOf (postM sts L) f w1 l) (n j : Nat)
    (h : (match l[n]? with | some e => Region.binds .any e && e.on == j | none => false) = true) (hs : smAt sts j = some x) : x.F (f j) w1 := by
  have := postsOf_nth l n j h hp
  unfold postM at this
  rw [hs] at this
  exact this
set_option maxRecDepth 100000 in
set_option maxHeartbeats 1000000 in
theorem endM {S : Nat} {w1 : World} {sts : List Sm} {L : List (PP S)} {f : Nat → Value} {n : Nat} (hp : AllPosts (postM sts L) f w1 n 0) (j : Nat) (hk : j < n) (hs : smAt sts j = none) : (L.getD j PP.any).p (f j) w1 := by
  have := allPosts_nth n 0 j (Nat.zero_le _) (by omega) hp
  unfold postM at this
  rw [hs] at this
  exact this
set_option maxRecDepth 100000 in
set_option maxHeartbeats 1000000 in
theorem endMS {S : Nat} {w1 : World} {sts : List Sm} {L : List (PP S)} {f : Nat → Value} {n : Nat} {x : Sm} (hp : AllPosts (postM sts L) f w1 n 0) (j : Nat) (hk : j < n) (hs : smAt sts j = some x) : x.F (f j) w1 := by
  have := allPosts_nth n 0 j (Nat.zero_le _) (by omega) hp
  unfold postM at this
  rw [hs] at this
  exact this
def OweM {S : Nat} (P : Program) (fr : (Nat → Value) → Array Value) (df : List Deferred) (w : World) (sts : List Sm) (I : World → Prop) (L : List (PP S)) (lates : List (Nat × Nat × Nat)) (tmps : Array Value) (pre : List Nat) (k : Nat) (o : Oper) : Prop :=
  ∀ f w1, (if pre.contains k then Ext w w1 else ChgS (sts.map (·.g)) w w1) → PostsOf (postM sts L) f w1 o.after.toList → LateFacts tmps f k lates →
    match smAt sts k with
    | some x => I w1 → x.U w w1 → OpGoal P o ⟨fr f, df⟩ f w1 (fun a b => x.R a b ∧ Chg x.g a b) (fun v w2 => x.F v w2)
    | none => OpGoal P o ⟨fr f, df⟩ f w1 Ext (L.getD k PP.any).p
def OwesM {S : Nat} (P : Program) (fr : (Nat → Value) → Array Value) (df : List Deferred) (w : World) (sts : List Sm) (I : World → Prop) (L : List (PP S)) (lates : List (Nat × Nat × Nat)) (tmps : Array Value) (pre : List Nat) : List Oper → Nat → Prop
  | [], _ => True
  | o :: l, k => OweM P fr df w sts I L lates tmps pre k o ∧ OwesM P fr df w sts I L lates tmps pre l (k + 1)
set_option maxRecDepth 100000 in
set_option maxHeartbeats 1000000 in
theorem owesM_at {S : Nat} {P : Program} {fr : (Nat → Value) → Array Value} {df : List Deferred} {w : World} {sts : List Sm} {I : World → Prop} {L : List (PP S)} {lates : List (Nat × Nat × Nat)} {tmps : Array Value} {pre : List Nat} :
    ∀ (l : List Oper) (k : Nat), OwesM P fr df w sts I L lates tmps pre l k → ∀ i o, l[i]? = some o → OweM P fr df w sts I L lates tmps pre (k + i) o
  | [], _, _, i, o, h => by simp at h
  | x :: l, k, hs, i, o, h => by
    cases i with
    | zero =>
      simp only [List.getElem?_cons_zero, Option.some.injEq] at h
      subst h
      exact hs.1
    | succ i =>
      have := owesM_at l (k + 1) hs.2 i o (by simpa using h)
      rwa [show k + 1 + i = k + (i + 1) by omega] at this

set_option maxRecDepth 100000 in
set_option maxHeartbeats 1000000 in
/-- THE LAW. -/
theorem wp_region_mut {P : Program} {id : Nat} {l : List Oper} {Q : Exit → Act → World → Prop} {tmps : Array Value} {df : List Deferred} {w : World} {fr : (Nat → Value) → Array Value}
    (sts : List Sm) (I : World → Prop) (L : List (PP w.heap.size)) (lates : List (Nat × Nat × Nat)) (pre : List Nat)
    (hm : P.follows .mixedOrders = true) (hok : (regOk l.toArray tmps.size && lateOk l.toArray lates && (sts.map (·.s)).all fun s => ancOk l.toArray [s] (pre.filter (· != s))) = true)
    (hfr : ∀ f, fillR l.toArray tmps f = fr f)
    (hlt : ∀ x ∈ sts, x.g < w.heap.size) (hs : ∀ x ∈ sts, smAt sts x.s = some x) (hL : ∀ p ∈ L, p.c = false)
    (hI : I w) (hIe : ∀ w1 w2, Ext w1 w2 → I w1 → I w2) (hIr : ∀ x ∈ sts, ∀ w1 w2, Chg x.g w1 w2 → x.R w1 w2 → I w1 → I w2)
    (hFe : ∀ x ∈ sts, ∀ v w1 w2, Ext w1 w2 → x.F v w1 → x.F v w2) (hFr : ∀ x ∈ sts, ∀ y ∈ sts, y.s ≠ x.s → ∀ v w1 w2, Chg y.g w1 w2 → y.R w1 w2 → x.F v w1 → x.F v w2)
    (hU : ∀ x ∈ sts, x.U w w) (hUe : ∀ x ∈ sts, ∀ w1 w2, w.heap.size ≤ w1.heap.size → Ext w1 w2 → x.U w w1 → x.U w w2) (hUr : ∀ x ∈ sts, ∀ y ∈ sts, y.s ≠ x.s → ∀ w1 w2, w.heap.size ≤ w1.heap.size → Chg y.g w1 w2 → y.R w1 w2 → x.U w w1 → x.U w w2)
    (hE : ∀ w1, ChgS (sts.map (·.g)) w w1 → I w1 → (∀ x ∈ sts, x.U w w1) → Ext w w1)
    (hstep : OwesM P fr df w sts I L lates tmps pre l 0)
    (hend : ∀ f w1, ChgS (sts.map (·.g)) w w1 → I w1 → AllPosts (postM sts L) f w1 l.length 0 → Q .normal ⟨fr f, df⟩ w1) :
    (Code.region id l.toArray true).wp P Q ⟨tmps, df⟩ w := by
  simp only [Bool.and_eq_true] at hok
  obtain ⟨⟨hok1, hok2⟩, hok3⟩ := hok
  have hLk : ∀ k, (L.getD k PP.any).c = false := fun k => by
    by_cases hk : k < L.length
    · rw [List.getD, List.getElem?_eq_getElem hk]
      exact hL _ (List.getElem_mem hk)
    · rw [List.getD, List.getElem?_eq_none (by omega)]
      rfl
  refine wp_region_posts (D := fun _ _ _ => True) (G := fun a b => ChgS (sts.map (·.g)) a b ∧ (a = w → I b)) (G0 := fun s a b => w.heap.size ≤ b.heap.size ∧ ∀ x, smAt sts s = some x → a = w → x.U w b)
    (R := fun i w1 w2 => match smAt sts i with | some x => x.R w1 w2 ∧ Chg x.g w1 w2 | none => Ext w1 w2) (post := postM sts L) hm hok1 (fun _ => trivial) ⟨(Ext.refl w).drew.chgS _, fun _ => hIe _ _ (Ext.refl w).drew hI⟩ (fun s => ⟨(Ext.refl w).drew.size, fun x hx _ => hUe x (smAt_mem hx).1 _ _ (Nat.le_refl _) (Ext.refl w).drew (hU x (smAt_mem hx).1)⟩) ?_ ?_ ?_ ?_ ?_
  · rintro i w1 w2 ⟨hG, hI1⟩ hR
    cases hx : smAt sts i with
    | none => rw [hx] at hR; exact ⟨hG.trans (hR.chgS _), fun h => hIe _ _ hR (hI1 h)⟩
    | some x => rw [hx] at hR; exact ⟨hG.trans (hR.2.chgS (List.mem_map.2 ⟨x, (smAt_mem hx).1, rfl⟩)), fun h => hIr x (smAt_mem hx).1 _ _ hR.2 hR.1 (hI1 h)⟩
  · rintro s i w1 w2 his ⟨h1, h2⟩ hR
    cases hx : smAt sts i with
    | none =>
      rw [hx] at hR
      exact ⟨Nat.le_trans h1 hR.size, fun y hy h => hUe y (smAt_mem hy).1 _ _ h1 hR (h2 y hy h)⟩
    | some x =>
      rw [hx] at hR
      refine ⟨Nat.le_trans h1 hR.2.size, fun y hy h => hUr y (smAt_mem hy).1 x (smAt_mem hx).1 ?_ _ _ h1 hR.2 hR.1 (h2 y hy h)⟩
      rw [(smAt_mem hy).2, (smAt_mem hx).2]
      omega
  · rintro i j v w1 w2 hij ⟨hG, _⟩ hR hp
    unfold postM at hp ⊢
    cases hxj : smAt sts j with
    | none =>
      rw [hxj] at hR
      cases hxi : smAt sts i with
      | some x =>
        rw [hxi] at hp
        exact hFe x (smAt_mem hxi).1 _ _ _ hR hp
      | none =>
        rw [hxi] at hp
        exact (L.getD i PP.any).m _ _ _ hR hp
    | some x =>
      rw [hxj] at hR
      cases hxi : smAt sts i with
      | some y =>
        rw [hxi] at hp
        refine hFr y (smAt_mem hxi).1 x (smAt_mem hxj).1 ?_ _ _ _ hR.2 hR.1 hp
        rw [(smAt_mem hxi).2, (smAt_mem hxj).2]
        omega
      | none =>
        rw [hxi] at hp
        exact (L.getD i PP.any).m2 (hLk i) _ (hlt x (smAt_mem hxj).1) _ _ _ hR.2 hp
  · intro i o ho listed f w1 _ _ _ hG hpre hp hl
    have hO := owesM_at l 0 hstep i o (by simpa using ho)
    rw [Nat.zero_add] at hO
    rw [hfr]
    have hEE : (if pre.contains i then Ext w w1 else ChgS (sts.map (·.g)) w w1) := by
      split
      · rename_i hpi
        refine hE w1 hG.1 (hG.2 rfl) fun x hx => ?_
        have hxs := List.all_eq_true.1 hok3 x.s (List.mem_map.2 ⟨x, hx, rfl⟩)
        have hanc : Anc l.toArray i x.s := by
          by_cases his : i = x.s
          · rw [his]; exact .self
          · refine anc_of _ [x.s] (fun j hj => ?_) hxs i (List.mem_filter.2 ⟨by simpa using hpi, by simpa using his⟩)
            have : j = x.s := by simpa using hj
            rw [this]; exact .self
        exact (hpre x.s hanc).2 x (hs x hx) rfl
      · exact hG.1
    have hg := hO f w1 hEE (postsOf_of _ fun e he hb => hp e (Array.mem_toList_iff.1 he) hb) (lateFacts_of hl lates hok2)
    unfold postM
    cases hx : smAt sts i with
    | none =>
      simp only [hx] at hg
      exact OpGoal.mono (fun _ h => by simp only [hx]; exact h) (fun v w' _ h => ⟨by simp only [hx]; exact h, trivial⟩) (fun h => ⟨by simp only [hx]; exact h, trivial⟩) hg
    | some x =>
      simp only [hx] at hg
      have h0 := (hpre i .self).2 x hx rfl
      exact OpGoal.mono (fun w' h => by simp only [hx]; exact h) (fun v w' _ h => ⟨by simp only [hx]; exact h, trivial⟩) (fun h => ⟨by simp only [hx]; exact h, trivial⟩) (hg (hG.2 rfl) h0)
  · intro f w1 hG hp _
    rw [hfr]
    exact hend f w1 hG.1 (hG.2 rfl) (allPosts_of _ _ fun i _ hi => hp i (by simpa using hi))
end Go.Proofs.Ytkcnnlhaiahpbaa

/-
  A list of nodes in memory of one's own: read, stored into, appended to.
-/
namespace Go.Proofs.Ytkcnnlhaiahpbaa
open Go.RowKit
set_option linter.unusedVariables false
set_option linter.unusedSimpArgs false

def flat (vs : List Value) : List Value := vs.flatMap fun v => v.cells.toList
/-- Structs of five cells. -/
def Five (vs : List Value) : Prop := ∀ v ∈ vs, ∃ cs : Array Value, v = .agg cs ∧ cs.size = 5 ∧ cs.all (·.oneCell') = true
set_option maxRecDepth 100000 in
set_option maxHeartbeats 1000000 in
theorem Five.size {vs : List Value} (h : Five vs) : ∀ v ∈ vs, v.cells.size = 5 := fun v hv => by
  obtain ⟨cs, rfl, h1, -⟩ := h v hv
  exact h1
set_option maxRecDepth 100000 in
set_option maxHeartbeats 1000000 in
theorem flat_len {vs : List Value} (h : ∀ v ∈ vs, v.cells.size = 5) : (flat vs).length = vs.length * 5 := by
  induction vs with
  | nil => rfl
  | cons v vs ih =>
    unfold flat at ih ⊢
    rw [List.flatMap_cons, List.length_append, ih fun u hu => h u (List.mem_cons_of_mem _ hu), Array.length_toList, h v (List.mem_cons_self ..), List.length_cons]
    omega
set_option maxRecDepth 100000 in
set_option maxHeartbeats 1000000 in
theorem flat_inj : ∀ {vs us : List Value}, Five vs → Five us → vs.length = us.length → flat vs = flat us → vs = us
  | [], [], _, _, _, _ => rfl
  | [], _ :: _, _, _, h, _ => by simp at h
  | _ :: _, [], _, _, h, _ => by simp at h
  | v :: vs, u :: us, h1, h2, h3, h4 => by
    obtain ⟨cs, rfl, hc, -⟩ := h1 v (List.mem_cons_self ..)
    obtain ⟨ds, rfl, hd, -⟩ := h2 u (List.mem_cons_self ..)
    unfold flat at h4
    rw [List.flatMap_cons, List.flatMap_cons] at h4
    have h5 := List.append_inj h4 (by show cs.toList.length = ds.toList.length; rw [Array.length_toList, Array.length_toList, hc, hd])
    have hcd : cs = ds := Array.toList_inj.1 h5.1
    rw [flat_inj (vs := vs) (us := us) (fun v hv => h1 v (List.mem_cons_of_mem _ hv)) (fun v hv => h2 v (List.mem_cons_of_mem _ hv)) (by simpa using h3) h5.2, hcd]
set_option maxRecDepth 100000 in
set_option maxHeartbeats 1000000 in
theorem flat_append (vs us : List Value) : flat (vs ++ us) = flat vs ++ flat us := by simp [flat]
/-- Some cells laid over others. -/
def splice (cur : Array Value) (off : Nat) (cs : List Value) : Array Value := (cur.toList.take off ++ cs ++ cur.toList.drop (off + cs.length)).toArray
set_option maxRecDepth 100000 in
set_option maxHeartbeats 1000000 in
theorem splice_flat {vs : List Value} {rest : List Value} {i : Nat} {v : Value} (h : ∀ v ∈ vs, v.cells.size = 5) (hi : i < vs.length) (hv : v.cells.size = 5) : splice (flat vs ++ rest).toArray (i * 5) v.cells.toList = (flat (vs.set i v) ++ rest).toArray := by
  unfold splice
  congr 1
  have hvl : v.cells.toList.length = 5 := by rw [Array.length_toList, hv]
  have h1 : (flat (vs.take i)).length = i * 5 := by
    rw [flat_len fun u hu => h u (List.mem_of_mem_take hu), List.length_take, Nat.min_eq_left (by omega)]
  have h2 : vs = vs.take i ++ (vs[i] :: vs.drop (i + 1)) := by rw [← List.drop_eq_getElem_cons hi, List.take_append_drop]
  have h3 : flat vs = flat (vs.take i) ++ (vs[i].cells.toList ++ flat (vs.drop (i + 1))) := by
    conv => lhs; rw [h2]
    rw [flat_append]
    rfl
  have h5 : vs[i].cells.toList.length = 5 := by rw [Array.length_toList, h _ (List.getElem_mem hi)]
  rw [List.set_eq_take_append_cons_drop, if_pos hi, flat_append, h3]
  have h6 : flat (v :: vs.drop (i + 1)) = v.cells.toList ++ flat (vs.drop (i + 1)) := rfl
  rw [h6, hvl]
  simp only [List.append_assoc]
  rw [List.take_append_of_le_length (by omega), List.take_of_length_le (by omega)]
  congr 2
  rw [← h1, ← List.drop_drop, List.drop_left]
  rw [← h5, List.drop_left]

/-- Block g holds the structs vs, and behind them the rest. -/
def HoldN (g : Nat) (rest : List Value) (w : World) (vs : List Value) : Prop := Five vs ∧ Bx 74 w g (flat vs ++ rest).toArray
set_option maxRecDepth 100000 in
set_option maxHeartbeats 1000000 in
theorem HoldN.inj {g : Nat} {rest : List Value} {w : World} {vs us : List Value} (h : HoldN g rest w vs) (k : HoldN g rest w us) (hl : vs.length = us.length) : vs = us := by
  obtain ⟨h1, h2⟩ := h
  obtain ⟨k1, k2⟩ := k
  unfold Bx at h2 k2
  rw [h2] at k2
  simp only [Option.some.injEq, Obj.cells.injEq, and_true] at k2
  have := congrArg Array.toList k2
  simp only [List.append_cancel_right_eq] at this
  exact flat_inj h1 k1 hl this
set_option maxRecDepth 100000 in
set_option maxHeartbeats 1000000 in
theorem HoldN.ext {g : Nat} {rest : List Value} {w w' : World} {vs : List Value} (h : HoldN g rest w vs) (he : Ext w w') : HoldN g rest w' vs := ⟨h.1, h.2.ext he⟩
set_option maxRecDepth 100000 in
set_option maxHeartbeats 1000000 in
theorem HoldN.chg {g k : Nat} {rest : List Value} {w w' : World} {vs : List Value} (h : HoldN g rest w vs) (he : Chg k w w') (hk : g ≠ k) : HoldN g rest w' vs := ⟨h.1, h.2.chg he hk⟩
set_option maxRecDepth 100000 in
set_option maxHeartbeats 1000000 in
theorem HoldN.cell {g : Nat} {rest : List Value} {w : World} {vs : List Value} (h : HoldN g rest w vs) {i : Nat} {cs : Array Value} (hi : vs[i]? = some (.agg cs)) : ∀ (j : Nat) (v : Value), cs[j]? = some v → w.cell? ⟨g, i * 5 + j, none⟩ = some v := by
  intro j v hj
  obtain ⟨cs', hcs, hsz, -⟩ := h.1 _ (List.mem_of_getElem? hi)
  cases hcs
  have hj5 : j < 5 := by rw [← hsz]; exact (Array.getElem?_eq_some_iff.1 hj).1
  have hil := (List.getElem?_eq_some_iff.1 hi).1
  rw [cell_of_row w g _ _ _ _ h.2, List.getElem?_toArray, List.getElem?_append_left (by rw [flat_len h.1.size]; omega)]
  unfold flat
  rw [Great.flat_get (by omega) vs h.1.size, show (i * 5 + j) / 5 = i by omega, show (i * 5 + j) % 5 = j by omega, hi]
  exact hj

section
variable {P : Program}
set_option maxRecDepth 100000 in
set_option maxHeartbeats 1000000 in
/-- A struct stored into a part of a block. -/
theorem run_storeVar_part (w : World) (g off : Nat) (t ty : TypeId) (cur cs : Array Value) (hg : w.heap[g]? = some (.cells cur t (0, 0))) (hi : (P.info? ty).map (·.size) = some cs.size) (hfit : off + cs.size ≤ cur.size) (h1 : cs.all (·.oneCell') = true) :
    (storeVar ty ⟨g, off, none⟩ (.agg cs)).run P w = .ok () (w.setRow g (splice cur off cs.toList)) := by
  have hst := run_storeCells_at P g off t cs.toList 0 cur w hg (by simpa using hfit) (fun u hu => by
    have := Array.all_eq_true'.1 h1 u (Array.mem_toList_iff.1 hu)
    exact this)
  cases hq : P.info? ty with
  | none => simp [hq] at hi
  | some i =>
    have hs : i.size = cs.size := by simpa [hq] using hi
    have hc : (Value.agg cs).cells = cs := rfl
    simp only [Nat.add_zero] at hst
    simp [storeVar, sizeOf, typeInfo, hq, hc, hs, splice, hst]
end
end Go.Proofs.Ytkcnnlhaiahpbaa

/-
  Two nodes of a list change places; one is laid at the top.
-/
namespace Go.Proofs.Ytkcnnlhaiahpbaa
open Go.RowKit
set_option linter.unusedVariables false
set_option linter.unusedSimpArgs false

/-- A store of struct v at place i of the list in block g. -/
def stN (g N : Nat) (rest vs : List Value) (s i : Nat) (v : Value) : Sm :=
  ⟨s, g, fun a b => ∀ us, us.length = N → HoldN g rest a us → HoldN g rest b (us.set i v), fun _ b => ∃ us, us.length = N ∧ HoldN g rest b us ∧ us[i]? = vs[i]?, fun _ b => ∃ us, us.length = N ∧ HoldN g rest b us ∧ us[i]? = some v⟩
/-- But for places i and k the list is as it was. -/
def inN (g N : Nat) (rest vs : List Value) (i k : Nat) (b : World) : Prop := ∃ us, us.length = N ∧ HoldN g rest b us ∧ ∀ j, j ≠ i → j ≠ k → us[j]? = vs[j]?

set_option maxRecDepth 100000 in
set_option maxHeartbeats 1000000 in
theorem og_stN {P : Program} {o : Oper} {a : Act} {f : Nat → Value} {w : World} (g N : Nat) (rest vs : List Value) (s i p q : Nat) (v : Value) (ty : TypeId) (x y : Operand) (hgd : o.guard = none) (ho : o.op = .store ty x y) (hx : a.eval x = .pointer (some ⟨g, i * 5, none⟩)) (hy : a.eval y = v)
    (hi : i < N) (hty : (P.info? ty).map (·.size) = some 5) (h5 : Five [v]) (hI : inN g N rest vs p q w) : OpGoal P o a f w (fun a b => (stN g N rest vs s i v).R a b ∧ Chg g a b) (fun u w2 => (stN g N rest vs s i v).F u w2) := by
  obtain ⟨us, hl, hH, -⟩ := hI
  obtain ⟨cs, rfl, hcs, hc1⟩ := h5 v (List.mem_singleton.2 rfl)
  have hlen := flat_len hH.1.size
  have hrun := run_storeVar_part (P := P) w g (i * 5) 74 ty _ cs hH.2 (by rw [hcs]; exact hty) (by simp [hlen, hcs]; omega) hc1
  have hsp := splice_flat (rest := rest) (i := i) (v := .agg cs) hH.1.size (by omega) hcs
  have hcc : (Value.agg cs).cells = cs := rfl
  rw [hcc] at hsp
  rw [hsp] at hrun
  have hH2 : HoldN g rest (w.setRow g (flat (us.set i (.agg cs)) ++ rest).toArray) (us.set i (.agg cs)) := by
    refine ⟨fun u hu => ?_, hH.2.setRow _⟩
    rcases List.mem_or_eq_of_mem_set hu with hu | rfl
    · exact hH.1 u hu
    · exact ⟨cs, rfl, hcs, hc1⟩
  unfold OpGoal
  rw [hgd]
  unfold Oper.wp execOp
  simp only [ho, hx, hy, Instr.storeAt, Instr.sureAddr, Sem.run_bind, Sem.run_pure, Result.andThen_ok, hrun]
  refine ⟨_, rfl, ⟨fun us' hl' hH' => ?_, Chg.setRow w g _⟩, _, by rw [List.length_set]; exact hl, hH2, by rw [List.getElem?_set_self (by omega)]⟩
  rw [hH'.inj hH (by omega)]
  exact hH2

set_option maxRecDepth 100000 in
set_option maxHeartbeats 1000000 in
/-- TWO NODES CHANGE PLACES in a region that draws its order. -/
theorem wp_region_swp {P : Program} {id : Nat} {l : List Oper} {Q : Exit → Act → World → Prop} {tmps : Array Value} {df : List Deferred} {w : World} {fr : (Nat → Value) → Array Value}
    (g N i k s1 s2 : Nat) (rest vs : List Value) (va vb : Value) (L : List (PP w.heap.size)) (lates : List (Nat × Nat × Nat)) (pre : List Nat)
    (hm : P.follows .mixedOrders = true) (hok : (regOk l.toArray tmps.size && lateOk l.toArray lates && ([stN g N rest vs s1 i vb, stN g N rest vs s2 k va].map (·.s)).all fun s => ancOk l.toArray [s] (pre.filter (· != s))) = true)
    (hfr : ∀ f, fillR l.toArray tmps f = fr f)
    (hik : i ≠ k) (hss : s1 ≠ s2) (hN : vs.length = N) (hH : HoldN g rest w vs) (hi : i < N) (hk : k < N) (hL : ∀ p ∈ L, p.c = false)
    (hstep : OwesM P fr df w [stN g N rest vs s1 i vb, stN g N rest vs s2 k va] (inN g N rest vs i k) L lates tmps pre l 0)
    (hend : ∀ f w1, Chg g w w1 → HoldN g rest w1 ((vs.set i vb).set k va) → AllPosts (postM [stN g N rest vs s1 i vb, stN g N rest vs s2 k va] L) f w1 l.length 0 → Q .normal ⟨fr f, df⟩ w1)
    (hs1 : s1 < l.length) (hs2 : s2 < l.length) :
    (Code.region id l.toArray true).wp P Q ⟨tmps, df⟩ w := by
  have hlt := blk_lt hH.2
  have hmem : ∀ x ∈ [stN g N rest vs s1 i vb, stN g N rest vs s2 k va], x = stN g N rest vs s1 i vb ∨ x = stN g N rest vs s2 k va := fun x hx => by simpa using hx
  have hat1 : smAt [stN g N rest vs s1 i vb, stN g N rest vs s2 k va] s1 = some (stN g N rest vs s1 i vb) := by simp [smAt, stN]
  have hat2 : smAt [stN g N rest vs s1 i vb, stN g N rest vs s2 k va] s2 = some (stN g N rest vs s2 k va) := by simp [smAt, stN, Ne.symm hss]
  have getset : ∀ (us : List Value) (p q : Nat) (v : Value), q ≠ p → (us.set p v)[q]? = us[q]? := fun us p q v h => List.getElem?_set_ne (by omega)
  refine wp_region_mut [stN g N rest vs s1 i vb, stN g N rest vs s2 k va] (inN g N rest vs i k) L lates pre hm hok hfr ?_ ?_ hL ⟨vs, hN, hH, fun _ _ _ => rfl⟩ ?_ ?_ ?_ ?_ ?_ ?_ ?_ ?_ hstep ?_
  · intro x hx
    rcases hmem x hx with rfl | rfl <;> exact hlt
  · intro x hx
    rcases hmem x hx with rfl | rfl
    · exact hat1
    · exact hat2
  · rintro w1 w2 he ⟨us, h1, h2, h3⟩
    exact ⟨us, h1, h2.ext he, h3⟩
  · intro x hx w1 w2 hch hR hI
    obtain ⟨us, h1, h2, h3⟩ := hI
    rcases hmem x hx with rfl | rfl
    · exact ⟨_, by rw [List.length_set]; exact h1, hR us h1 h2, fun j hj hj2 => by rw [getset _ _ _ _ hj]; exact h3 j hj hj2⟩
    · exact ⟨_, by rw [List.length_set]; exact h1, hR us h1 h2, fun j hj hj2 => by rw [getset _ _ _ _ hj2]; exact h3 j hj hj2⟩
  · intro x hx v w1 w2 he hF
    rcases hmem x hx with rfl | rfl <;> (obtain ⟨us, h1, h2, h3⟩ := hF; exact ⟨us, h1, h2.ext he, h3⟩)
  · intro x hx y hy hne v w1 w2 hch hR hF
    rcases hmem x hx with rfl | rfl <;> rcases hmem y hy with rfl | rfl
    · exact absurd rfl hne
    · obtain ⟨us, h1, h2, h3⟩ := hF
      exact ⟨_, by rw [List.length_set]; exact h1, hR us h1 h2, by rw [getset _ _ _ _ hik]; exact h3⟩
    · obtain ⟨us, h1, h2, h3⟩ := hF
      exact ⟨_, by rw [List.length_set]; exact h1, hR us h1 h2, by rw [getset _ _ _ _ (Ne.symm hik)]; exact h3⟩
    · exact absurd rfl hne
  · intro x hx
    rcases hmem x hx with rfl | rfl <;> exact ⟨vs, hN, hH, rfl⟩
  · intro x hx w1 w2 _ he hU
    rcases hmem x hx with rfl | rfl <;> (obtain ⟨us, h1, h2, h3⟩ := hU; exact ⟨us, h1, h2.ext he, h3⟩)
  · intro x hx y hy hne w1 w2 _ hch hR hU
    rcases hmem x hx with rfl | rfl <;> rcases hmem y hy with rfl | rfl
    · exact absurd rfl hne
    · obtain ⟨us, h1, h2, h3⟩ := hU
      exact ⟨_, by rw [List.length_set]; exact h1, hR us h1 h2, by rw [getset _ _ _ _ hik]; exact h3⟩
    · obtain ⟨us, h1, h2, h3⟩ := hU
      exact ⟨_, by rw [List.length_set]; exact h1, hR us h1 h2, by rw [getset _ _ _ _ (Ne.symm hik)]; exact h3⟩
    · exact absurd rfl hne
  · rintro w1 hG ⟨us, h1, h2, h3⟩ hU
    obtain ⟨us1, a1, a2, a3⟩ := hU (stN g N rest vs s1 i vb) (by simp)
    obtain ⟨us2, b1, b2, b3⟩ := hU (stN g N rest vs s2 k va) (by simp)
    have e1 := a2.inj h2 (by omega)
    have e2 := b2.inj h2 (by omega)
    subst e1 e2
    have huv : us2 = vs := by
      apply List.ext_getElem?
      intro j
      by_cases hj : j = i
      · rw [hj]; exact a3
      · by_cases hj2 : j = k
        · rw [hj2]; exact b3
        · exact h3 j hj hj2
    subst huv
    refine ⟨hG.1, hG.2.1, hG.2.2.1, hG.2.2.2.1, fun j hj _ => ?_⟩
    by_cases hjg : j = g
    · rw [hjg]
      exact h2.2.trans hH.2.symm
    · exact hG.2.2.2.2 j hj (by simp [stN]; exact hjg)
  · intro f w1 hG hI hp
    obtain ⟨us, h1, h2, h3⟩ := hI
    obtain ⟨us1, a1, a2, a3⟩ := endMS hp s1 hs1 hat1
    obtain ⟨us2, b1, b2, b3⟩ := endMS hp s2 hs2 hat2
    have e1 := a2.inj h2 (by omega)
    have e2 := b2.inj h2 (by omega)
    subst e1 e2
    have huv : us2 = (vs.set i vb).set k va := by
      apply List.ext_getElem?
      intro j
      by_cases hj2 : j = k
      · rw [hj2, List.getElem?_set_self (by rw [List.length_set]; omega)]
        exact b3
      · rw [getset _ _ _ _ hj2]
        by_cases hj : j = i
        · rw [hj, List.getElem?_set_self (by omega)]
          exact a3
        · rw [getset _ _ _ _ hj]
          exact h3 j hj hj2
    refine hend f w1 ⟨hG.1, hG.2.1, hG.2.2.1, hG.2.2.2.1, fun j hj hne => hG.2.2.2.2 j hj (by simp [stN]; exact fun h => hne (by rw [h]))⟩ (huv ▸ h2) hp
end Go.Proofs.Ytkcnnlhaiahpbaa

/-
  The queue in memory; a node moved up.
-/
namespace Go.Proofs.Ytkcnnlhaiahpbaa
open Go.RowKit
set_option linter.unusedVariables false
set_option linter.unusedSimpArgs false

set_option maxRecDepth 100000 in
set_option maxHeartbeats 1000000 in
theorem NdV.five {B k : Nat} {w : World} {v : Value} {x : Nd} (h : NdV B k w v x) : Five [v] := by
  obtain ⟨b, a1, n1, c1, a2, n2, c2, rfl, -⟩ := h
  intro u hu
  rw [List.mem_singleton] at hu
  subst hu
  exact ⟨_, rfl, rfl, all5 rfl rfl rfl rfl rfl⟩
set_option maxRecDepth 100000 in
set_option maxHeartbeats 1000000 in
theorem NdV.chgN {B k : Nat} {w w' : World} {v : Value} {x : Nd} {g : Nat} {t : TypeId} {cs cs' : Array Value} (h : NdV B k w v x) (hc : Chg g w w') (hb : Bx t w g cs) (hb' : Bx t w' g cs') (ht : t ≠ 105) (ht2 : t ≠ 3) : NdV B k w' v x := by
  obtain ⟨b, a1, n1, c1, a2, n2, c2, h1, h2, h3⟩ := h
  exact ⟨b, a1, n1, c1, a2, n2, c2, h1, h2.tchg (S := 0) ⟨g, t, cs, cs', Nat.zero_le _, ht, ht2, rfl, hb, hb', hc⟩, h3⟩
set_option maxRecDepth 100000 in
set_option maxHeartbeats 1000000 in
/-- An operation whose guard says no. -/
theorem og_skip {P : Program} {o : Oper} {a : Act} {f : Nat → Value} {w : World} {R : World → World → Prop} {post : Value → World → Prop} {j : Nat} {want b : Bool} (hg : o.guard = some (j, want)) (hf : f j = .bool b) (hb : b ≠ want) (hu : post undef w) : OpGoal P o a f w R post := by
  unfold OpGoal
  rw [hg]
  exact ⟨fun h => absurd (by rw [hf] at h; cases h; rfl) hb, fun _ => hu⟩
/-- The nodes d in the list in block g. -/
def Nds (B k g : Nat) (rest : List Value) (w : World) (vs : List Value) (d : Array Nd) : Prop := vs.length = d.size ∧ HoldN g rest w vs ∧ ∀ (i : Nat) (v : Value), vs[i]? = some v → NdV B k w v d[i]!
set_option maxRecDepth 100000 in
set_option maxHeartbeats 1000000 in
theorem Nds.ext {B k g : Nat} {rest : List Value} {w w' : World} {vs : List Value} {d : Array Nd} (h : Nds B k g rest w vs d) (he : Ext w w') : Nds B k g rest w' vs d := ⟨h.1, h.2.1.ext he, fun i v hi => (h.2.2 i v hi).ext he⟩
set_option maxRecDepth 100000 in
set_option maxHeartbeats 1000000 in
theorem Nds.at {B k g : Nat} {rest : List Value} {w : World} {vs : List Value} {d : Array Nd} (h : Nds B k g rest w vs d) {i : Nat} (hi : i < d.size) : ∃ b a1 n1 c1 a2 n2 c2, vs[i]? = some (.agg #[.int .i64 d[i]!.id, .int .i64 d[i]!.depth, .bool b, .slice a1 n1 c1, .slice a2 n2 c2]) ∧
    (∀ wz, Ext w wz → ∀ (j : Nat) (v : Value), (#[.int .i64 d[i]!.id, .int .i64 d[i]!.depth, .bool b, .slice a1 n1 c1, .slice a2 n2 c2] : Array Value)[j]? = some v → wz.cell? ⟨g, i * 5 + j, none⟩ = some v) ∧
    NdV B k w (.agg #[.int .i64 d[i]!.id, .int .i64 d[i]!.depth, .bool b, .slice a1 n1 c1, .slice a2 n2 c2]) d[i]! := by
  obtain ⟨u, hi'⟩ : ∃ u, vs[i]? = some u := ⟨_, List.getElem?_eq_getElem (by rw [h.1]; exact hi)⟩
  have hv := h.2.2 i _ hi'
  obtain ⟨b, a1, n1, c1, a2, n2, c2, h1, -⟩ := id hv
  rw [h1] at hi' hv
  exact ⟨b, a1, n1, c1, a2, n2, c2, hi', fun wz hz j v hj => hz.cell (h.2.1.cell hi' j v hj), hv⟩
set_option maxRecDepth 100000 in
set_option maxHeartbeats 1000000 in
/-- Two have changed places. -/
theorem Nds.swap {B k g i j : Nat} {rest : List Value} {w w' : World} {vs : List Value} {d : Array Nd} {va vb : Value} (h : Nds B k g rest w vs d) (hc : Chg g w w') (hi : i < d.size) (hj : j < d.size) (hva : vs[i]? = some va) (hvb : vs[j]? = some vb) (hH : HoldN g rest w' ((vs.set i vb).set j va)) : Nds B k g rest w' ((vs.set i vb).set j va) (d.swap i j hi hj) := by
  refine ⟨by rw [List.length_set, List.length_set, Array.size_swap]; exact h.1, hH, fun m v hm => ?_⟩
  rw [swp_get]
  have tr : ∀ {u : Value} {x : Nd}, NdV B k w u x → NdV B k w' u x := fun hu => hu.chgN hc h.2.1.2 hH.2 (by decide) (by decide)
  by_cases hmj : m = j
  · subst hmj
    rw [List.getElem?_set_self (by rw [List.length_set, h.1]; exact hj)] at hm
    cases hm
    by_cases hmi : m = i
    · subst hmi
      rw [if_pos rfl]
      exact tr (h.2.2 m _ hva)
    · rw [if_neg hmi, if_pos rfl]
      exact tr (h.2.2 i _ hva)
  · rw [List.getElem?_set_ne (Ne.symm hmj)] at hm
    by_cases hmi : m = i
    · subst hmi
      rw [List.getElem?_set_self (by rw [h.1]; exact hi)] at hm
      cases hm
      rw [if_pos rfl]
      exact tr (h.2.2 j _ hvb)
    · rw [List.getElem?_set_ne (Ne.symm hmi)] at hm
      rw [if_neg hmi, if_neg hmj]
      exact tr (h.2.2 m _ hm)
end Go.Proofs.Ytkcnnlhaiahpbaa

/-
  A node moved down to its place.
-/
namespace Go.Proofs.Ytkcnnlhaiahpbaa
open Go.RowKit
set_option linter.unusedVariables false
set_option linter.unusedSimpArgs false

/-- Of place i and the first m places below it, f comes first. -/
def FirstM (best : Bool) (d : Array Nd) (i f m : Nat) : Prop :=
  (f = i ∨ (f = 2 * i + 1 ∧ 0 < m) ∨ (f = 2 * i + 2 ∧ 1 < m)) ∧ f < d.size ∧ Le best d[f]! d[i]! ∧ (0 < m → 2 * i + 1 < d.size → Le best d[f]! d[2 * i + 1]!) ∧ (1 < m → 2 * i + 2 < d.size → Le best d[f]! d[2 * i + 2]!)
set_option maxRecDepth 100000 in
set_option maxHeartbeats 1000000 in
theorem FirstM.zero {best : Bool} {d : Array Nd} {i : Nat} (hi : i < d.size) : FirstM best d i i 0 := ⟨.inl rfl, hi, Le.rfl' _ _, by omega, by omega⟩
set_option maxRecDepth 100000 in
set_option maxHeartbeats 1000000 in
theorem FirstM.out {best : Bool} {d : Array Nd} {i f : Nat} (h : FirstM best d i f 2) : FirstOf best d i f := by
  obtain ⟨h1, h2, h3, h4, h5⟩ := h
  exact ⟨by omega, h2, h3, h4 (by omega), h5 (by omega)⟩
set_option maxRecDepth 100000 in
set_option maxHeartbeats 1000000 in
/-- The next one lies behind the list, or comes not ahead. -/
theorem FirstM.stay {best : Bool} {d : Array Nd} {i f m : Nat} (h : FirstM best d i f m) (hm : m < 2) (hk : d.size ≤ 2 * i + 1 + m ∨ ¬ Lt best d[2 * i + 1 + m]! d[f]!) : FirstM best d i f (m + 1) := by
  obtain ⟨h1, h2, h3, h4, h5⟩ := h
  refine ⟨by omega, h2, h3, fun _ hs => ?_, fun _ hs => ?_⟩
  · rcases Nat.eq_zero_or_pos m with rfl | h0
    · exact hk.resolve_left (by omega)
    · exact h4 h0 hs
  · have : m = 1 := by omega
    subst this
    exact hk.resolve_left (by omega)
set_option maxRecDepth 100000 in
set_option maxHeartbeats 1000000 in
/-- The next one comes ahead. -/
theorem FirstM.turn {best : Bool} {d : Array Nd} {i f m : Nat} (h : FirstM best d i f m) (hm : m < 2) (hs : 2 * i + 1 + m < d.size) (hk : Lt best d[2 * i + 1 + m]! d[f]!) : FirstM best d i (2 * i + 1 + m) (m + 1) := by
  obtain ⟨h1, h2, h3, h4, h5⟩ := h
  have hle := hk.le
  refine ⟨by omega, hs, hle.trans h3, fun _ hs1 => ?_, fun _ hs2 => ?_⟩
  · rcases Nat.eq_zero_or_pos m with rfl | h0
    · exact Le.rfl' _ _
    · exact hle.trans (h4 h0 hs1)
  · have : m = 1 := by omega
    subst this
    exact Le.rfl' _ _

set_option maxRecDepth 100000 in
set_option maxHeartbeats 1000000 in
theorem idx2_0 (x y : Int) (w : World) : (Instr.index 149 (.agg #[.int .i64 x, .int .i64 y]) (.int .i64 0)).run Try.prog w = .ok (.int .i64 x) w := by kernel_rfl
set_option maxRecDepth 100000 in
set_option maxHeartbeats 1000000 in
theorem idx2_1 (x y : Int) (w : World) : (Instr.index 149 (.agg #[.int .i64 x, .int .i64 y]) (.int .i64 1)).run Try.prog w = .ok (.int .i64 y) w := by kernel_rfl

set_option maxRecDepth 100000 in
set_option maxHeartbeats 8000000 in
theorem sink_calls (B k p g cap kk i0 : Nat) (best : Bool) (rest vs0 : List Value) (d0 : Array Nd) (w : World) (hp : Bx 123 w p #[.int .i64 (ordV best), .slice (some ⟨g, 0, none⟩) d0.size cap])
    (hd : Nds B k g rest w vs0 d0) (hinv : DownInv best d0 kk i0) (hkk : kk ≤ i0) (hi0 : i0 < d0.size) (hn : d0.size ≤ 35184372088832) (hk : k ≤ LIM) (hk2 : k ≤ 34359738368) :
    Calls Try.prog 99 #[.pointer (some ⟨p, 0, none⟩), .int .i64 (i0 : Int)] w fun e w' => e = .returned (.tuple #[]) ∧ Chg g w w' ∧ ∃ vs d, Nds B k g rest w' vs d ∧ HpFrom best d kk ∧ d.toList.Perm d0.toList ∧ d.size = d0.size := by
  obtain ⟨n, hn0⟩ : ∃ n, n = d0.size := ⟨_, rfl⟩
  rw [← hn0] at hp hn hi0
  have Hn := Lib.hid hn0
  have hpg : p ≠ g := by
    rintro rfl
    have h1 := hd.2.1.2
    unfold Bx at h1 hp
    rw [h1] at hp
    simp at hp
  have Hd := Lib.hid hd
  have Hp := Lib.hid hp
  have Hinv := Lib.hid hinv
  clear hn0 hd hp hinv
  have hix0 := idx2_0
  have hix1 := idx2_1
  go_enter Try.func99, Try.ntmps99
  go_wp2_with fail
  go_loopw [1] (fun s1 wr => ∃ (i : Nat) (vs : List Value) (d : Array Nd), s1 = .int .i64 (i : Int) ∧ i < n ∧ kk ≤ i ∧ Hid (Nds B k g rest wr vs d ∧ DownInv best d kk i ∧ d.toList.Perm d0.toList ∧ d.size = d0.size) ∧ Chg g w wr) (fun s1 _ => ((n : Int) - intOf s1).toNat)
  case atStart => exact ⟨i0, vs0, d0, rfl, hi0, hkk, Lib.hid ⟨Hd.out, Hinv.out, List.Perm.refl _, rfl⟩, Chg.refl _ _⟩
  case round =>
    obtain ⟨i, vs, d, rfl, hin, hki, hH, hch⟩ := hrel
    obtain ⟨wo, hwo⟩ : ∃ wo, wo = wr := ⟨wr, rfl⟩
    subst hwo
    have P1 := Lib.hid (Hp.out.chg hch hpg)
    have hb1 : (2 : Int) * (i : Int) ≤ 9223372036854775807 := by omega
    have hb2 : -9223372036854775808 ≤ (2 : Int) * (i : Int) := by omega
    go_wp2_with fail
    go_loopw [4, 15] (fun s4 s15 wq => ∃ (m fi : Nat), s15 = .int .i64 (m : Int) ∧ s4 = .int .i64 (fi : Int) ∧ m ≤ 2 ∧ fi < n ∧ Hid (FirstM best d i fi m) ∧ Ext wo wq) (fun _ s15 _ => (2 - intOf s15).toNat)
    case atStart => exact ⟨0, i, rfl, rfl, by omega, hin, Lib.hid (FirstM.zero (by rw [hH.out.2.2.2, ← Hn.out]; exact hin)), Ext.refl _⟩
    case round =>
      obtain ⟨m, fi, rfl, rfl, hm, hfn, hF, hX⟩ := hrel
      rcases (show m = 0 ∨ m = 1 ∨ m = 2 by omega) with rfl | rfl | rfl
      · have hk0 : ¬ n ≤ (2 * i + 1 + 0) ∨ n ≤ (2 * i + 1 + 0) := by omega
        have hkc : (((2 * i + 1 + 0) : Nat) : Int) = (2 * (i : Int) + 1) := by omega
        have P2 := P1.out.ext hX
        rcases Nat.lt_or_ge (2 * i + 1 + 0) n with hlt | hge
        · have hlt' : (2 * (i : Int) + 1) < (n : Int) := by omega
          have hlt0 : 0 ≤ (2 * (i : Int) + 1) := by omega
          have N2 := hH.out.1.ext hX
          have hdn : d.size = n := hH.out.2.2.2.trans Hn.out.symm
          obtain ⟨b1, a1, n1, c1, e1, m1, f1, hv1, hcell1, hnd1⟩ := N2.at (i := (2 * i + 1 + 0)) (by omega)
          obtain ⟨b2, a2, n2, c2, e2, m2, f2, hv2, hcell2, hnd2⟩ := N2.at (i := fi) (by omega)
          have HC1 := Lib.hid hcell1
          have HC2 := Lib.hid hcell2
          have HN1 := Lib.hid hnd1
          have HN2 := Lib.hid hnd2
          have hfn : fi < n := by omega
          have htn : ((2 * (i : Int) + 1)).toNat = (2 * i + 1 + 0) := by omega
          clear hcell1 hcell2 hnd1 hnd2 hv1 hv2 N2
          obtain ⟨r, hr⟩ : ∃ r, r = decide (Lt best d[(2 * i + 1 + 0)]! d[fi]!) := ⟨_, rfl⟩
          have Hr := Lib.hid hr.symm
          clear hr
          obtain ⟨x1, hx1⟩ : ∃ x, x = d[(2 * i + 1 + 0)]! := ⟨_, rfl⟩
          obtain ⟨x2, hx2⟩ : ∃ x, x = d[fi]! := ⟨_, rfl⟩
          rw [← hx1] at HC1 HN1 Hr
          rw [← hx2] at HC2 HN2 Hr
          have HX1 := Lib.hid hx1
          have HX2 := Lib.hid hx2
          clear hx1 hx2 hdn
          go_wp2_with fail
          refine wp_region_puts [] [PP.val (.int .i64 (2 * (i : Int) + 1)), PP.val (.pointer (some ⟨p, 0, none⟩)), PP.val (.pointer (some ⟨p, 0, none⟩)), PP.val (.pointer (some ⟨p, 1, none⟩)), PP.val (.slice (some ⟨g, 0, none⟩) n cap), PP.val (.int .i64 (n : Int)), PP.val (.bool true), PP.val (.bool true), PP.val (.pointer (some ⟨p, 0, none⟩)), PP.val (.pointer (some ⟨p, 0, none⟩)), PP.val (.pointer (some ⟨p, 0, none⟩)), PP.val (.pointer (some ⟨p, 1, none⟩)), PP.val (.slice (some ⟨g, 0, none⟩) n cap), PP.val (.int .i64 (2 * (i : Int) + 1)), PP.val (.pointer (some ⟨g, (2 * i + 1 + 0) * 5, none⟩)), PP.val (.agg #[.int .i64 x1.id, .int .i64 x1.depth, .bool b1, .slice a1 n1 c1, .slice e1 m1 f1]), PP.val (.pointer (some ⟨p, 0, none⟩)), PP.val (.pointer (some ⟨p, 0, none⟩)), PP.val (.pointer (some ⟨p, 1, none⟩)), PP.val (.slice (some ⟨g, 0, none⟩) n cap), PP.val (.int .i64 (fi : Int)), PP.val (.pointer (some ⟨g, fi * 5, none⟩)), PP.val (.agg #[.int .i64 x2.id, .int .i64 x2.depth, .bool b2, .slice a2 n2 c2, .slice e2 m2 f2]), PP.val (.bool r), PP.val (.bool r)] [] [0, 1, 2, 3, 4, 5, 6, 7, 8, 9, 10, 11, 12, 13, 14, 15, 16, 17, 18, 19, 20, 21, 22, 23, 24]
            (by kernel_rfl) (by kernel_rfl) (fun f => (by simp only [fillR, fillL, List.setIfInBounds_toArray, List.set_cons_succ, List.set_cons_zero, Nat.reduceAdd]; rfl)) ?_ ?_ ?_ ?_ ?_
          · intro x hx; cases hx
          · intro x hx; cases hx
          · intro x hx; cases hx
          · refine ⟨?o0, ?o1, ?o2, ?o3, ?o4, ?o5, ?o6, ?o7, ?o8, ?o9, ?o10, ?o11, ?o12, ?o13, ?o14, ?o15, ?o16, ?o17, ?o18, ?o19, ?o20, ?o21, ?o22, ?o23, ?o24, trivial⟩
            case o0 =>
              intro f w2 hG hp hl
              have hE : Ext wr w2 := hG
              have hS := hE.size
              simp only [OpGoal]
              go_simp
              exact ⟨_, rfl, Ext.refl _, rfl⟩
            case o1 =>
              intro f w2 hG hp hl
              have hE : Ext wr w2 := hG
              have hS := hE.size
              simp only [OpGoal]
              go_simp
              exact ⟨_, rfl, Ext.refl _, rfl⟩
            case o2 =>
              intro f w2 hG hp hl
              have hE : Ext wr w2 := hG
              have hS := hE.size
              have q19 : f 1 = .pointer (some ⟨p, 0, none⟩) := tellV hp 0 1 rfl rfl (fun h => by cases h)
              simp only [OpGoal]
              go_simp
              exact ⟨_, rfl, Ext.refl _, rfl⟩
            case o3 =>
              intro f w2 hG hp hl
              have hE : Ext wr w2 := hG
              have hS := hE.size
              have q20 : f 2 = .pointer (some ⟨p, 0, none⟩) := tellV hp 0 2 rfl rfl (fun h => by cases h)
              simp only [OpGoal]
              go_simp
              exact ⟨_, rfl, Ext.refl _, rfl⟩
            case o4 =>
              intro f w2 hG hp hl
              have hE : Ext wr w2 := hG
              have hS := hE.size
              have q21 : f 3 = .pointer (some ⟨p, 1, none⟩) := tellV hp 0 3 rfl rfl (fun h => by cases h)
              have hcell := (P2.ext hE).cell 1
              simp only [OpGoal]
              go_simp
              exact ⟨_, rfl, Ext.refl _, rfl⟩
            case o5 =>
              intro f w2 hG hp hl
              have hE : Ext wr w2 := hG
              have hS := hE.size
              have q22 : f 4 = .slice (some ⟨g, 0, none⟩) n cap := tellV hp 0 4 rfl rfl (fun h => by cases h)
              simp only [OpGoal]
              go_simp
              exact ⟨_, rfl, Ext.refl _, rfl⟩
            case o6 =>
              intro f w2 hG hp hl
              have hE : Ext wr w2 := hG
              have hS := hE.size
              have q18 : f 0 = .int .i64 (2 * (i : Int) + 1) := tellV hp 0 0 rfl rfl (fun h => by cases h)
              have q23 : f 5 = .int .i64 (n : Int) := tellV hp 1 5 rfl rfl (fun h => by cases h)
              simp only [OpGoal]
              go_simp
              exact ⟨_, rfl, Ext.refl _, rfl⟩
            case o7 =>
              intro f w2 hG hp hl
              have hE : Ext wr w2 := hG
              have hS := hE.size
              have q24 : f 6 = .bool true := tellV hp 0 6 rfl rfl (fun h => by cases h)
              simp only [OpGoal]
              go_simp
              exact ⟨_, rfl, Ext.refl _, rfl⟩
            case o8 =>
              intro f w2 hG hp hl
              have hE : Ext wr w2 := hG
              have hS := hE.size
              have qg : f 7 = .bool true := tellV hp 0 7 rfl rfl (fun h => by cases h)
              change OpGoal _ _ _ f w2 Ext _
              refine og_guard (j := 7) (want := true) rfl qg ?_
              simp only [OpGoal]
              go_simp
              exact ⟨_, rfl, Ext.refl _, rfl⟩
            case o9 =>
              intro f w2 hG hp hl
              have hE : Ext wr w2 := hG
              have hS := hE.size
              have qg : f 7 = .bool true := tellV hp 0 7 rfl rfl (fun h => by cases h)
              change OpGoal _ _ _ f w2 Ext _
              refine og_guard (j := 7) (want := true) rfl qg ?_
              simp only [OpGoal]
              go_simp
              exact ⟨_, rfl, Ext.refl _, rfl⟩
            case o10 =>
              intro f w2 hG hp hl
              have hE : Ext wr w2 := hG
              have hS := hE.size
              have q27 : f 9 = .pointer (some ⟨p, 0, none⟩) := tellV hp 0 9 rfl rfl (fun h => by cases h)
              have qg : f 7 = .bool true := tellV hp 1 7 rfl rfl (fun h => by cases h)
              change OpGoal _ _ _ f w2 Ext _
              refine og_guard (j := 7) (want := true) rfl qg ?_
              simp only [OpGoal]
              go_simp
              exact ⟨_, rfl, Ext.refl _, rfl⟩
            case o11 =>
              intro f w2 hG hp hl
              have hE : Ext wr w2 := hG
              have hS := hE.size
              have q28 : f 10 = .pointer (some ⟨p, 0, none⟩) := tellV hp 0 10 rfl rfl (fun h => by cases h)
              have qg : f 7 = .bool true := tellV hp 1 7 rfl rfl (fun h => by cases h)
              change OpGoal _ _ _ f w2 Ext _
              refine og_guard (j := 7) (want := true) rfl qg ?_
              simp only [OpGoal]
              go_simp
              exact ⟨_, rfl, Ext.refl _, rfl⟩
            case o12 =>
              intro f w2 hG hp hl
              have hE : Ext wr w2 := hG
              have hS := hE.size
              have q29 : f 11 = .pointer (some ⟨p, 1, none⟩) := tellV hp 0 11 rfl rfl (fun h => by cases h)
              have qg : f 7 = .bool true := tellV hp 1 7 rfl rfl (fun h => by cases h)
              change OpGoal _ _ _ f w2 Ext _
              refine og_guard (j := 7) (want := true) rfl qg ?_
              have hcell := (P2.ext hE).cell 1
              simp only [OpGoal]
              go_simp
              exact ⟨_, rfl, Ext.refl _, rfl⟩
            case o13 =>
              intro f w2 hG hp hl
              have hE : Ext wr w2 := hG
              have hS := hE.size
              have qg : f 7 = .bool true := tellV hp 0 7 rfl rfl (fun h => by cases h)
              change OpGoal _ _ _ f w2 Ext _
              refine og_guard (j := 7) (want := true) rfl qg ?_
              simp only [OpGoal]
              go_simp
              exact ⟨_, rfl, Ext.refl _, rfl⟩
            case o14 =>
              intro f w2 hG hp hl
              have hE : Ext wr w2 := hG
              have hS := hE.size
              have q30 : f 12 = .slice (some ⟨g, 0, none⟩) n cap := tellV hp 0 12 rfl rfl (fun h => by cases h)
              have q31 : f 13 = .int .i64 (2 * (i : Int) + 1) := tellV hp 1 13 rfl rfl (fun h => by cases h)
              have qg : f 7 = .bool true := tellV hp 2 7 rfl rfl (fun h => by cases h)
              change OpGoal _ _ _ f w2 Ext _
              refine og_guard (j := 7) (want := true) rfl qg ?_
              simp only [OpGoal]
              go_simp
              exact ⟨_, rfl, Ext.refl _, rfl⟩
            case o15 =>
              intro f w2 hG hp hl
              have hE : Ext wr w2 := hG
              have hS := hE.size
              have q32 : f 14 = .pointer (some ⟨g, (2 * i + 1 + 0) * 5, none⟩) := tellV hp 0 14 rfl rfl (fun h => by cases h)
              have qg : f 7 = .bool true := tellV hp 1 7 rfl rfl (fun h => by cases h)
              change OpGoal _ _ _ f w2 Ext _
              refine og_guard (j := 7) (want := true) rfl qg ?_
              change OpGoal _ _ _ f w2 Ext _
              exact og_loadAt (P := Try.prog) _ _ g ((2 * i + 1 + 0) * 5) _ _ rfl rfl q32 (fun j v h => HC1.out _ hE j v h) Try.underlying74 rfl (by kernel_rfl) rfl
            case o16 =>
              intro f w2 hG hp hl
              have hE : Ext wr w2 := hG
              have hS := hE.size
              have qg : f 7 = .bool true := tellV hp 0 7 rfl rfl (fun h => by cases h)
              change OpGoal _ _ _ f w2 Ext _
              refine og_guard (j := 7) (want := true) rfl qg ?_
              simp only [OpGoal]
              go_simp
              exact ⟨_, rfl, Ext.refl _, rfl⟩
            case o17 =>
              intro f w2 hG hp hl
              have hE : Ext wr w2 := hG
              have hS := hE.size
              have q34 : f 16 = .pointer (some ⟨p, 0, none⟩) := tellV hp 0 16 rfl rfl (fun h => by cases h)
              have qg : f 7 = .bool true := tellV hp 1 7 rfl rfl (fun h => by cases h)
              change OpGoal _ _ _ f w2 Ext _
              refine og_guard (j := 7) (want := true) rfl qg ?_
              simp only [OpGoal]
              go_simp
              exact ⟨_, rfl, Ext.refl _, rfl⟩
            case o18 =>
              intro f w2 hG hp hl
              have hE : Ext wr w2 := hG
              have hS := hE.size
              have q35 : f 17 = .pointer (some ⟨p, 0, none⟩) := tellV hp 0 17 rfl rfl (fun h => by cases h)
              have qg : f 7 = .bool true := tellV hp 1 7 rfl rfl (fun h => by cases h)
              change OpGoal _ _ _ f w2 Ext _
              refine og_guard (j := 7) (want := true) rfl qg ?_
              simp only [OpGoal]
              go_simp
              exact ⟨_, rfl, Ext.refl _, rfl⟩
            case o19 =>
              intro f w2 hG hp hl
              have hE : Ext wr w2 := hG
              have hS := hE.size
              have q36 : f 18 = .pointer (some ⟨p, 1, none⟩) := tellV hp 0 18 rfl rfl (fun h => by cases h)
              have qg : f 7 = .bool true := tellV hp 1 7 rfl rfl (fun h => by cases h)
              change OpGoal _ _ _ f w2 Ext _
              refine og_guard (j := 7) (want := true) rfl qg ?_
              have hcell := (P2.ext hE).cell 1
              simp only [OpGoal]
              go_simp
              exact ⟨_, rfl, Ext.refl _, rfl⟩
            case o20 =>
              intro f w2 hG hp hl
              have hE : Ext wr w2 := hG
              have hS := hE.size
              have qg : f 7 = .bool true := tellV hp 0 7 rfl rfl (fun h => by cases h)
              change OpGoal _ _ _ f w2 Ext _
              refine og_guard (j := 7) (want := true) rfl qg ?_
              simp only [OpGoal]
              go_simp
              exact ⟨_, rfl, Ext.refl _, rfl⟩
            case o21 =>
              intro f w2 hG hp hl
              have hE : Ext wr w2 := hG
              have hS := hE.size
              have q37 : f 19 = .slice (some ⟨g, 0, none⟩) n cap := tellV hp 0 19 rfl rfl (fun h => by cases h)
              have q38 : f 20 = .int .i64 (fi : Int) := tellV hp 1 20 rfl rfl (fun h => by cases h)
              have qg : f 7 = .bool true := tellV hp 2 7 rfl rfl (fun h => by cases h)
              change OpGoal _ _ _ f w2 Ext _
              refine og_guard (j := 7) (want := true) rfl qg ?_
              simp only [OpGoal]
              go_simp
              exact ⟨_, rfl, Ext.refl _, rfl⟩
            case o22 =>
              intro f w2 hG hp hl
              have hE : Ext wr w2 := hG
              have hS := hE.size
              have q39 : f 21 = .pointer (some ⟨g, fi * 5, none⟩) := tellV hp 0 21 rfl rfl (fun h => by cases h)
              have qg : f 7 = .bool true := tellV hp 1 7 rfl rfl (fun h => by cases h)
              change OpGoal _ _ _ f w2 Ext _
              refine og_guard (j := 7) (want := true) rfl qg ?_
              change OpGoal _ _ _ f w2 Ext _
              exact og_loadAt (P := Try.prog) _ _ g (fi * 5) _ _ rfl rfl q39 (fun j v h => HC2.out _ hE j v h) Try.underlying74 rfl (by kernel_rfl) rfl
            case o23 =>
              intro f w2 hG hp hl
              have hE : Ext wr w2 := hG
              have hS := hE.size
              have q26 : f 8 = .pointer (some ⟨p, 0, none⟩) := tellV hp 0 8 rfl rfl (fun h => by cases h)
              have q33 : f 15 = .agg #[.int .i64 x1.id, .int .i64 x1.depth, .bool b1, .slice a1 n1 c1, .slice e1 m1 f1] := tellV hp 1 15 rfl rfl (fun h => by cases h)
              have q40 : f 22 = .agg #[.int .i64 x2.id, .int .i64 x2.depth, .bool b2, .slice a2 n2 c2, .slice e2 m2 f2] := tellV hp 2 22 rfl rfl (fun h => by cases h)
              have qg : f 7 = .bool true := tellV hp 3 7 rfl rfl (fun h => by cases h)
              change OpGoal _ _ _ f w2 Ext _
              refine og_guard (j := 7) (want := true) rfl qg ?_
              change OpGoal _ _ _ f w2 Ext _
              refine og_call (P := Try.prog) _ _ _ #[f 8, f 15, f 22] Try.func98 (by kernel_rfl) (by kernel_rfl) rfl rfl (by kernel_rfl) ?_
              rw [q26, q33, q40]
              refine (ahead_calls p best _ _ _ x1 x2 k _ (P2.ext hE) ((HN1.out.r hk).ext hE) ((HN2.out.r hk).ext hE) hk2).mono ?_
              rw [Hr.out]
              rintro e w' ⟨rfl, h2⟩
              exact ⟨_, rfl, h2, rfl⟩
            case o24 =>
              intro f w2 hG hp hl
              have hE : Ext wr w2 := hG
              have hS := hE.size
              have q25 : f 7 = .bool true := tellV hp 0 7 rfl rfl (fun h => by cases h)
              have q41 : f 23 = .bool r := tellV hp 1 23 rfl rfl (fun h => by cases h)
              simp only [OpGoal]
              go_simp
              exact ⟨_, rfl, Ext.refl _, rfl⟩
          · intro f w2 hG hp
            have hE : Ext wr w2 := ChgS.nil hG
            have q42 : f 24 = .bool r := endV hp 24 (by decide) rfl (fun h => by cases h)
            try simp only [q42]
            clear hp
            have E2 := hX.trans hE
            cases r with
            | true =>
              have HT := Lib.hid (FirstM.turn hF.out (by omega) (by rw [hH.out.2.2.2, ← Hn.out]; exact hlt) (by rw [← HX1.out, ← HX2.out]; exact of_decide_eq_true Hr.out))
              go_wp2
              go_roundw
              case rel => exact ⟨1, (2 * i + 1 + 0), rfl, congrArg (Value.int .i64) (by omega), by omega, hlt, HT, E2⟩
              case measure => simp [intOf]
            | false =>
              have HT := Lib.hid (FirstM.stay hF.out (by omega) (.inr (by rw [← HX1.out, ← HX2.out]; exact of_decide_eq_false Hr.out)))
              go_wp2
              go_roundw
              case rel => exact ⟨1, fi, rfl, rfl, by omega, hfn, HT, E2⟩
              case measure => simp [intOf]
        · have hge' : ¬ (2 * (i : Int) + 1) < (n : Int) := by omega
          have HT := Lib.hid (FirstM.stay hF.out (by omega) (.inl (by rw [hH.out.2.2.2, ← Hn.out]; exact hge)))
          clear hk0 hkc
          go_wp2_with fail
          refine wp_region_puts [] [PP.val (.int .i64 (2 * (i : Int) + 1)), PP.val (.pointer (some ⟨p, 0, none⟩)), PP.val (.pointer (some ⟨p, 0, none⟩)), PP.val (.pointer (some ⟨p, 1, none⟩)), PP.val (.slice (some ⟨g, 0, none⟩) n cap), PP.val (.int .i64 (n : Int)), PP.val (.bool false), PP.val (.bool false), PP.any, PP.any, PP.any, PP.any, PP.any, PP.any, PP.any, PP.any, PP.any, PP.any, PP.any, PP.any, PP.any, PP.any, PP.any, PP.any, PP.val (.bool false)] [] [0, 1, 2, 3, 4, 5, 6, 7, 8, 9, 10, 11, 12, 13, 14, 15, 16, 17, 18, 19, 20, 21, 22, 23, 24]
            (by kernel_rfl) (by kernel_rfl) (fun f => (by simp only [fillR, fillL, List.setIfInBounds_toArray, List.set_cons_succ, List.set_cons_zero, Nat.reduceAdd]; rfl)) ?_ ?_ ?_ ?_ ?_
          · intro x hx; cases hx
          · intro x hx; cases hx
          · intro x hx; cases hx
          · refine ⟨?o0, ?o1, ?o2, ?o3, ?o4, ?o5, ?o6, ?o7, ?o8, ?o9, ?o10, ?o11, ?o12, ?o13, ?o14, ?o15, ?o16, ?o17, ?o18, ?o19, ?o20, ?o21, ?o22, ?o23, ?o24, trivial⟩
            case o0 =>
              intro f w2 hG hp hl
              have hE : Ext wr w2 := hG
              have hS := hE.size
              simp only [OpGoal]
              go_simp
              exact ⟨_, rfl, Ext.refl _, rfl⟩
            case o1 =>
              intro f w2 hG hp hl
              have hE : Ext wr w2 := hG
              have hS := hE.size
              simp only [OpGoal]
              go_simp
              exact ⟨_, rfl, Ext.refl _, rfl⟩
            case o2 =>
              intro f w2 hG hp hl
              have hE : Ext wr w2 := hG
              have hS := hE.size
              have q19 : f 1 = .pointer (some ⟨p, 0, none⟩) := tellV hp 0 1 rfl rfl (fun h => by cases h)
              simp only [OpGoal]
              go_simp
              exact ⟨_, rfl, Ext.refl _, rfl⟩
            case o3 =>
              intro f w2 hG hp hl
              have hE : Ext wr w2 := hG
              have hS := hE.size
              have q20 : f 2 = .pointer (some ⟨p, 0, none⟩) := tellV hp 0 2 rfl rfl (fun h => by cases h)
              simp only [OpGoal]
              go_simp
              exact ⟨_, rfl, Ext.refl _, rfl⟩
            case o4 =>
              intro f w2 hG hp hl
              have hE : Ext wr w2 := hG
              have hS := hE.size
              have q21 : f 3 = .pointer (some ⟨p, 1, none⟩) := tellV hp 0 3 rfl rfl (fun h => by cases h)
              have hcell := (P2.ext hE).cell 1
              simp only [OpGoal]
              go_simp
              exact ⟨_, rfl, Ext.refl _, rfl⟩
            case o5 =>
              intro f w2 hG hp hl
              have hE : Ext wr w2 := hG
              have hS := hE.size
              have q22 : f 4 = .slice (some ⟨g, 0, none⟩) n cap := tellV hp 0 4 rfl rfl (fun h => by cases h)
              simp only [OpGoal]
              go_simp
              exact ⟨_, rfl, Ext.refl _, rfl⟩
            case o6 =>
              intro f w2 hG hp hl
              have hE : Ext wr w2 := hG
              have hS := hE.size
              have q18 : f 0 = .int .i64 (2 * (i : Int) + 1) := tellV hp 0 0 rfl rfl (fun h => by cases h)
              have q23 : f 5 = .int .i64 (n : Int) := tellV hp 1 5 rfl rfl (fun h => by cases h)
              simp only [OpGoal]
              go_simp
              exact ⟨_, rfl, Ext.refl _, congrArg Value.bool (decide_eq_false (by omega))⟩
            case o7 =>
              intro f w2 hG hp hl
              have hE : Ext wr w2 := hG
              have hS := hE.size
              have q24 : f 6 = .bool false := tellV hp 0 6 rfl rfl (fun h => by cases h)
              simp only [OpGoal]
              go_simp
              exact ⟨_, rfl, Ext.refl _, rfl⟩
            case o8 =>
              intro f w2 hG hp hl
              have hE : Ext wr w2 := hG
              have hS := hE.size
              have qg : f 7 = .bool false := tellV hp 0 7 rfl rfl (fun h => by cases h)
              exact og_skip rfl qg (by decide) trivial
            case o9 =>
              intro f w2 hG hp hl
              have hE : Ext wr w2 := hG
              have hS := hE.size
              have qg : f 7 = .bool false := tellV hp 0 7 rfl rfl (fun h => by cases h)
              exact og_skip rfl qg (by decide) trivial
            case o10 =>
              intro f w2 hG hp hl
              have hE : Ext wr w2 := hG
              have hS := hE.size
              have qg : f 7 = .bool false := tellV hp 1 7 rfl rfl (fun h => by cases h)
              exact og_skip rfl qg (by decide) trivial
            case o11 =>
              intro f w2 hG hp hl
              have hE : Ext wr w2 := hG
              have hS := hE.size
              have qg : f 7 = .bool false := tellV hp 1 7 rfl rfl (fun h => by cases h)
              exact og_skip rfl qg (by decide) trivial
            case o12 =>
              intro f w2 hG hp hl
              have hE : Ext wr w2 := hG
              have hS := hE.size
              have qg : f 7 = .bool false := tellV hp 1 7 rfl rfl (fun h => by cases h)
              exact og_skip rfl qg (by decide) trivial
            case o13 =>
              intro f w2 hG hp hl
              have hE : Ext wr w2 := hG
              have hS := hE.size
              have qg : f 7 = .bool false := tellV hp 0 7 rfl rfl (fun h => by cases h)
              exact og_skip rfl qg (by decide) trivial
            case o14 =>
              intro f w2 hG hp hl
              have hE : Ext wr w2 := hG
              have hS := hE.size
              have qg : f 7 = .bool false := tellV hp 2 7 rfl rfl (fun h => by cases h)
              exact og_skip rfl qg (by decide) trivial
            case o15 =>
              intro f w2 hG hp hl
              have hE : Ext wr w2 := hG
              have hS := hE.size
              have qg : f 7 = .bool false := tellV hp 1 7 rfl rfl (fun h => by cases h)
              exact og_skip rfl qg (by decide) trivial
            case o16 =>
              intro f w2 hG hp hl
              have hE : Ext wr w2 := hG
              have hS := hE.size
              have qg : f 7 = .bool false := tellV hp 0 7 rfl rfl (fun h => by cases h)
              exact og_skip rfl qg (by decide) trivial
            case o17 =>
              intro f w2 hG hp hl
              have hE : Ext wr w2 := hG
              have hS := hE.size
              have qg : f 7 = .bool false := tellV hp 1 7 rfl rfl (fun h => by cases h)
              exact og_skip rfl qg (by decide) trivial
            case o18 =>
              intro f w2 hG hp hl
              have hE : Ext wr w2 := hG
              have hS := hE.size
              have qg : f 7 = .bool false := tellV hp 1 7 rfl rfl (fun h => by cases h)
              exact og_skip rfl qg (by decide) trivial
            case o19 =>
              intro f w2 hG hp hl
              have hE : Ext wr w2 := hG
              have hS := hE.size
              have qg : f 7 = .bool false := tellV hp 1 7 rfl rfl (fun h => by cases h)
              exact og_skip rfl qg (by decide) trivial
            case o20 =>
              intro f w2 hG hp hl
              have hE : Ext wr w2 := hG
              have hS := hE.size
              have qg : f 7 = .bool false := tellV hp 0 7 rfl rfl (fun h => by cases h)
              exact og_skip rfl qg (by decide) trivial
            case o21 =>
              intro f w2 hG hp hl
              have hE : Ext wr w2 := hG
              have hS := hE.size
              have qg : f 7 = .bool false := tellV hp 2 7 rfl rfl (fun h => by cases h)
              exact og_skip rfl qg (by decide) trivial
            case o22 =>
              intro f w2 hG hp hl
              have hE : Ext wr w2 := hG
              have hS := hE.size
              have qg : f 7 = .bool false := tellV hp 1 7 rfl rfl (fun h => by cases h)
              exact og_skip rfl qg (by decide) trivial
            case o23 =>
              intro f w2 hG hp hl
              have hE : Ext wr w2 := hG
              have hS := hE.size
              have qg : f 7 = .bool false := tellV hp 3 7 rfl rfl (fun h => by cases h)
              exact og_skip rfl qg (by decide) trivial
            case o24 =>
              intro f w2 hG hp hl
              have hE : Ext wr w2 := hG
              have hS := hE.size
              have q25 : f 7 = .bool false := tellV hp 0 7 rfl rfl (fun h => by cases h)
              simp only [OpGoal]
              go_simp
              exact ⟨_, rfl, Ext.refl _, rfl⟩
          · intro f w2 hG hp
            have hE : Ext wr w2 := ChgS.nil hG
            have q42 : f 24 = .bool false := endV hp 24 (by decide) rfl (fun h => by cases h)
            try simp only [q42]
            clear hp
            go_wp2
            go_roundw
            case rel => exact ⟨1, fi, rfl, rfl, by omega, hfn, HT, hX.trans hE⟩
            case measure => simp [intOf]
      · have hk0 : ¬ n ≤ (2 * i + 1 + 1) ∨ n ≤ (2 * i + 1 + 1) := by omega
        have hkc : (((2 * i + 1 + 1) : Nat) : Int) = (2 * (i : Int) + 2) := by omega
        have P2 := P1.out.ext hX
        rcases Nat.lt_or_ge (2 * i + 1 + 1) n with hlt | hge
        · have hlt' : (2 * (i : Int) + 2) < (n : Int) := by omega
          have hlt0 : 0 ≤ (2 * (i : Int) + 2) := by omega
          have N2 := hH.out.1.ext hX
          have hdn : d.size = n := hH.out.2.2.2.trans Hn.out.symm
          obtain ⟨b1, a1, n1, c1, e1, m1, f1, hv1, hcell1, hnd1⟩ := N2.at (i := (2 * i + 1 + 1)) (by omega)
          obtain ⟨b2, a2, n2, c2, e2, m2, f2, hv2, hcell2, hnd2⟩ := N2.at (i := fi) (by omega)
          have HC1 := Lib.hid hcell1
          have HC2 := Lib.hid hcell2
          have HN1 := Lib.hid hnd1
          have HN2 := Lib.hid hnd2
          have hfn : fi < n := by omega
          have htn : ((2 * (i : Int) + 2)).toNat = (2 * i + 1 + 1) := by omega
          clear hcell1 hcell2 hnd1 hnd2 hv1 hv2 N2
          obtain ⟨r, hr⟩ : ∃ r, r = decide (Lt best d[(2 * i + 1 + 1)]! d[fi]!) := ⟨_, rfl⟩
          have Hr := Lib.hid hr.symm
          clear hr
          obtain ⟨x1, hx1⟩ : ∃ x, x = d[(2 * i + 1 + 1)]! := ⟨_, rfl⟩
          obtain ⟨x2, hx2⟩ : ∃ x, x = d[fi]! := ⟨_, rfl⟩
          rw [← hx1] at HC1 HN1 Hr
          rw [← hx2] at HC2 HN2 Hr
          have HX1 := Lib.hid hx1
          have HX2 := Lib.hid hx2
          clear hx1 hx2 hdn
          go_wp2_with fail
          refine wp_region_puts [] [PP.val (.int .i64 (2 * (i : Int) + 2)), PP.val (.pointer (some ⟨p, 0, none⟩)), PP.val (.pointer (some ⟨p, 0, none⟩)), PP.val (.pointer (some ⟨p, 1, none⟩)), PP.val (.slice (some ⟨g, 0, none⟩) n cap), PP.val (.int .i64 (n : Int)), PP.val (.bool true), PP.val (.bool true), PP.val (.pointer (some ⟨p, 0, none⟩)), PP.val (.pointer (some ⟨p, 0, none⟩)), PP.val (.pointer (some ⟨p, 0, none⟩)), PP.val (.pointer (some ⟨p, 1, none⟩)), PP.val (.slice (some ⟨g, 0, none⟩) n cap), PP.val (.int .i64 (2 * (i : Int) + 2)), PP.val (.pointer (some ⟨g, (2 * i + 1 + 1) * 5, none⟩)), PP.val (.agg #[.int .i64 x1.id, .int .i64 x1.depth, .bool b1, .slice a1 n1 c1, .slice e1 m1 f1]), PP.val (.pointer (some ⟨p, 0, none⟩)), PP.val (.pointer (some ⟨p, 0, none⟩)), PP.val (.pointer (some ⟨p, 1, none⟩)), PP.val (.slice (some ⟨g, 0, none⟩) n cap), PP.val (.int .i64 (fi : Int)), PP.val (.pointer (some ⟨g, fi * 5, none⟩)), PP.val (.agg #[.int .i64 x2.id, .int .i64 x2.depth, .bool b2, .slice a2 n2 c2, .slice e2 m2 f2]), PP.val (.bool r), PP.val (.bool r)] [] [0, 1, 2, 3, 4, 5, 6, 7, 8, 9, 10, 11, 12, 13, 14, 15, 16, 17, 18, 19, 20, 21, 22, 23, 24]
            (by kernel_rfl) (by kernel_rfl) (fun f => (by simp only [fillR, fillL, List.setIfInBounds_toArray, List.set_cons_succ, List.set_cons_zero, Nat.reduceAdd]; rfl)) ?_ ?_ ?_ ?_ ?_
          · intro x hx; cases hx
          · intro x hx; cases hx
          · intro x hx; cases hx
          · refine ⟨?o0, ?o1, ?o2, ?o3, ?o4, ?o5, ?o6, ?o7, ?o8, ?o9, ?o10, ?o11, ?o12, ?o13, ?o14, ?o15, ?o16, ?o17, ?o18, ?o19, ?o20, ?o21, ?o22, ?o23, ?o24, trivial⟩
            case o0 =>
              intro f w2 hG hp hl
              have hE : Ext wr w2 := hG
              have hS := hE.size
              simp only [OpGoal]
              go_simp
              exact ⟨_, rfl, Ext.refl _, rfl⟩
            case o1 =>
              intro f w2 hG hp hl
              have hE : Ext wr w2 := hG
              have hS := hE.size
              simp only [OpGoal]
              go_simp
              exact ⟨_, rfl, Ext.refl _, rfl⟩
            case o2 =>
              intro f w2 hG hp hl
              have hE : Ext wr w2 := hG
              have hS := hE.size
              have q19 : f 1 = .pointer (some ⟨p, 0, none⟩) := tellV hp 0 1 rfl rfl (fun h => by cases h)
              simp only [OpGoal]
              go_simp
              exact ⟨_, rfl, Ext.refl _, rfl⟩
            case o3 =>
              intro f w2 hG hp hl
              have hE : Ext wr w2 := hG
              have hS := hE.size
              have q20 : f 2 = .pointer (some ⟨p, 0, none⟩) := tellV hp 0 2 rfl rfl (fun h => by cases h)
              simp only [OpGoal]
              go_simp
              exact ⟨_, rfl, Ext.refl _, rfl⟩
            case o4 =>
              intro f w2 hG hp hl
              have hE : Ext wr w2 := hG
              have hS := hE.size
              have q21 : f 3 = .pointer (some ⟨p, 1, none⟩) := tellV hp 0 3 rfl rfl (fun h => by cases h)
              have hcell := (P2.ext hE).cell 1
              simp only [OpGoal]
              go_simp
              exact ⟨_, rfl, Ext.refl _, rfl⟩
            case o5 =>
              intro f w2 hG hp hl
              have hE : Ext wr w2 := hG
              have hS := hE.size
              have q22 : f 4 = .slice (some ⟨g, 0, none⟩) n cap := tellV hp 0 4 rfl rfl (fun h => by cases h)
              simp only [OpGoal]
              go_simp
              exact ⟨_, rfl, Ext.refl _, rfl⟩
            case o6 =>
              intro f w2 hG hp hl
              have hE : Ext wr w2 := hG
              have hS := hE.size
              have q18 : f 0 = .int .i64 (2 * (i : Int) + 2) := tellV hp 0 0 rfl rfl (fun h => by cases h)
              have q23 : f 5 = .int .i64 (n : Int) := tellV hp 1 5 rfl rfl (fun h => by cases h)
              simp only [OpGoal]
              go_simp
              exact ⟨_, rfl, Ext.refl _, rfl⟩
            case o7 =>
              intro f w2 hG hp hl
              have hE : Ext wr w2 := hG
              have hS := hE.size
              have q24 : f 6 = .bool true := tellV hp 0 6 rfl rfl (fun h => by cases h)
              simp only [OpGoal]
              go_simp
              exact ⟨_, rfl, Ext.refl _, rfl⟩
            case o8 =>
              intro f w2 hG hp hl
              have hE : Ext wr w2 := hG
              have hS := hE.size
              have qg : f 7 = .bool true := tellV hp 0 7 rfl rfl (fun h => by cases h)
              change OpGoal _ _ _ f w2 Ext _
              refine og_guard (j := 7) (want := true) rfl qg ?_
              simp only [OpGoal]
              go_simp
              exact ⟨_, rfl, Ext.refl _, rfl⟩
            case o9 =>
              intro f w2 hG hp hl
              have hE : Ext wr w2 := hG
              have hS := hE.size
              have qg : f 7 = .bool true := tellV hp 0 7 rfl rfl (fun h => by cases h)
              change OpGoal _ _ _ f w2 Ext _
              refine og_guard (j := 7) (want := true) rfl qg ?_
              simp only [OpGoal]
              go_simp
              exact ⟨_, rfl, Ext.refl _, rfl⟩
            case o10 =>
              intro f w2 hG hp hl
              have hE : Ext wr w2 := hG
              have hS := hE.size
              have q27 : f 9 = .pointer (some ⟨p, 0, none⟩) := tellV hp 0 9 rfl rfl (fun h => by cases h)
              have qg : f 7 = .bool true := tellV hp 1 7 rfl rfl (fun h => by cases h)
              change OpGoal _ _ _ f w2 Ext _
              refine og_guard (j := 7) (want := true) rfl qg ?_
              simp only [OpGoal]
              go_simp
              exact ⟨_, rfl, Ext.refl _, rfl⟩
            case o11 =>
              intro f w2 hG hp hl
              have hE : Ext wr w2 := hG
              have hS := hE.size
              have q28 : f 10 = .pointer (some ⟨p, 0, none⟩) := tellV hp 0 10 rfl rfl (fun h => by cases h)
              have qg : f 7 = .bool true := tellV hp 1 7 rfl rfl (fun h => by cases h)
              change OpGoal _ _ _ f w2 Ext _
              refine og_guard (j := 7) (want := true) rfl qg ?_
              simp only [OpGoal]
              go_simp
              exact ⟨_, rfl, Ext.refl _, rfl⟩
            case o12 =>
              intro f w2 hG hp hl
              have hE : Ext wr w2 := hG
              have hS := hE.size
              have q29 : f 11 = .pointer (some ⟨p, 1, none⟩) := tellV hp 0 11 rfl rfl (fun h => by cases h)
              have qg : f 7 = .bool true := tellV hp 1 7 rfl rfl (fun h => by cases h)
              change OpGoal _ _ _ f w2 Ext _
              refine og_guard (j := 7) (want := true) rfl qg ?_
              have hcell := (P2.ext hE).cell 1
              simp only [OpGoal]
              go_simp
              exact ⟨_, rfl, Ext.refl _, rfl⟩
            case o13 =>
              intro f w2 hG hp hl
              have hE : Ext wr w2 := hG
              have hS := hE.size
              have qg : f 7 = .bool true := tellV hp 0 7 rfl rfl (fun h => by cases h)
              change OpGoal _ _ _ f w2 Ext _
              refine og_guard (j := 7) (want := true) rfl qg ?_
              simp only [OpGoal]
              go_simp
              exact ⟨_, rfl, Ext.refl _, rfl⟩
            case o14 =>
              intro f w2 hG hp hl
              have hE : Ext wr w2 := hG
              have hS := hE.size
              have q30 : f 12 = .slice (some ⟨g, 0, none⟩) n cap := tellV hp 0 12 rfl rfl (fun h => by cases h)
              have q31 : f 13 = .int .i64 (2 * (i : Int) + 2) := tellV hp 1 13 rfl rfl (fun h => by cases h)
              have qg : f 7 = .bool true := tellV hp 2 7 rfl rfl (fun h => by cases h)
              change OpGoal _ _ _ f w2 Ext _
              refine og_guard (j := 7) (want := true) rfl qg ?_
              simp only [OpGoal]
              go_simp
              exact ⟨_, rfl, Ext.refl _, rfl⟩
            case o15 =>
              intro f w2 hG hp hl
              have hE : Ext wr w2 := hG
              have hS := hE.size
              have q32 : f 14 = .pointer (some ⟨g, (2 * i + 1 + 1) * 5, none⟩) := tellV hp 0 14 rfl rfl (fun h => by cases h)
              have qg : f 7 = .bool true := tellV hp 1 7 rfl rfl (fun h => by cases h)
              change OpGoal _ _ _ f w2 Ext _
              refine og_guard (j := 7) (want := true) rfl qg ?_
              change OpGoal _ _ _ f w2 Ext _
              exact og_loadAt (P := Try.prog) _ _ g ((2 * i + 1 + 1) * 5) _ _ rfl rfl q32 (fun j v h => HC1.out _ hE j v h) Try.underlying74 rfl (by kernel_rfl) rfl
            case o16 =>
              intro f w2 hG hp hl
              have hE : Ext wr w2 := hG
              have hS := hE.size
              have qg : f 7 = .bool true := tellV hp 0 7 rfl rfl (fun h => by cases h)
              change OpGoal _ _ _ f w2 Ext _
              refine og_guard (j := 7) (want := true) rfl qg ?_
              simp only [OpGoal]
              go_simp
              exact ⟨_, rfl, Ext.refl _, rfl⟩
            case o17 =>
              intro f w2 hG hp hl
              have hE : Ext wr w2 := hG
              have hS := hE.size
              have q34 : f 16 = .pointer (some ⟨p, 0, none⟩) := tellV hp 0 16 rfl rfl (fun h => by cases h)
              have qg : f 7 = .bool true := tellV hp 1 7 rfl rfl (fun h => by cases h)
              change OpGoal _ _ _ f w2 Ext _
              refine og_guard (j := 7) (want := true) rfl qg ?_
              simp only [OpGoal]
              go_simp
              exact ⟨_, rfl, Ext.refl _, rfl⟩
            case o18 =>
              intro f w2 hG hp hl
              have hE : Ext wr w2 := hG
              have hS := hE.size
              have q35 : f 17 = .pointer (some ⟨p, 0, none⟩) := tellV hp 0 17 rfl rfl (fun h => by cases h)
              have qg : f 7 = .bool true := tellV hp 1 7 rfl rfl (fun h => by cases h)
              change OpGoal _ _ _ f w2 Ext _
              refine og_guard (j := 7) (want := true) rfl qg ?_
              simp only [OpGoal]
              go_simp
              exact ⟨_, rfl, Ext.refl _, rfl⟩
            case o19 =>
              intro f w2 hG hp hl
              have hE : Ext wr w2 := hG
              have hS := hE.size
              have q36 : f 18 = .pointer (some ⟨p, 1, none⟩) := tellV hp 0 18 rfl rfl (fun h => by cases h)
              have qg : f 7 = .bool true := tellV hp 1 7 rfl rfl (fun h => by cases h)
              change OpGoal _ _ _ f w2 Ext _
              refine og_guard (j := 7) (want := true) rfl qg ?_
              have hcell := (P2.ext hE).cell 1
              simp only [OpGoal]
              go_simp
              exact ⟨_, rfl, Ext.refl _, rfl⟩
            case o20 =>
              intro f w2 hG hp hl
              have hE : Ext wr w2 := hG
              have hS := hE.size
              have qg : f 7 = .bool true := tellV hp 0 7 rfl rfl (fun h => by cases h)
              change OpGoal _ _ _ f w2 Ext _
              refine og_guard (j := 7) (want := true) rfl qg ?_
              simp only [OpGoal]
              go_simp
              exact ⟨_, rfl, Ext.refl _, rfl⟩
            case o21 =>
              intro f w2 hG hp hl
              have hE : Ext wr w2 := hG
              have hS := hE.size
              have q37 : f 19 = .slice (some ⟨g, 0, none⟩) n cap := tellV hp 0 19 rfl rfl (fun h => by cases h)
              have q38 : f 20 = .int .i64 (fi : Int) := tellV hp 1 20 rfl rfl (fun h => by cases h)
              have qg : f 7 = .bool true := tellV hp 2 7 rfl rfl (fun h => by cases h)
              change OpGoal _ _ _ f w2 Ext _
              refine og_guard (j := 7) (want := true) rfl qg ?_
              simp only [OpGoal]
              go_simp
              exact ⟨_, rfl, Ext.refl _, rfl⟩
            case o22 =>
              intro f w2 hG hp hl
              have hE : Ext wr w2 := hG
              have hS := hE.size
              have q39 : f 21 = .pointer (some ⟨g, fi * 5, none⟩) := tellV hp 0 21 rfl rfl (fun h => by cases h)
              have qg : f 7 = .bool true := tellV hp 1 7 rfl rfl (fun h => by cases h)
              change OpGoal _ _ _ f w2 Ext _
              refine og_guard (j := 7) (want := true) rfl qg ?_
              change OpGoal _ _ _ f w2 Ext _
              exact og_loadAt (P := Try.prog) _ _ g (fi * 5) _ _ rfl rfl q39 (fun j v h => HC2.out _ hE j v h) Try.underlying74 rfl (by kernel_rfl) rfl
            case o23 =>
              intro f w2 hG hp hl
              have hE : Ext wr w2 := hG
              have hS := hE.size
              have q26 : f 8 = .pointer (some ⟨p, 0, none⟩) := tellV hp 0 8 rfl rfl (fun h => by cases h)
              have q33 : f 15 = .agg #[.int .i64 x1.id, .int .i64 x1.depth, .bool b1, .slice a1 n1 c1, .slice e1 m1 f1] := tellV hp 1 15 rfl rfl (fun h => by cases h)
              have q40 : f 22 = .agg #[.int .i64 x2.id, .int .i64 x2.depth, .bool b2, .slice a2 n2 c2, .slice e2 m2 f2] := tellV hp 2 22 rfl rfl (fun h => by cases h)
              have qg : f 7 = .bool true := tellV hp 3 7 rfl rfl (fun h => by cases h)
              change OpGoal _ _ _ f w2 Ext _
              refine og_guard (j := 7) (want := true) rfl qg ?_
              change OpGoal _ _ _ f w2 Ext _
              refine og_call (P := Try.prog) _ _ _ #[f 8, f 15, f 22] Try.func98 (by kernel_rfl) (by kernel_rfl) rfl rfl (by kernel_rfl) ?_
              rw [q26, q33, q40]
              refine (ahead_calls p best _ _ _ x1 x2 k _ (P2.ext hE) ((HN1.out.r hk).ext hE) ((HN2.out.r hk).ext hE) hk2).mono ?_
              rw [Hr.out]
              rintro e w' ⟨rfl, h2⟩
              exact ⟨_, rfl, h2, rfl⟩
            case o24 =>
              intro f w2 hG hp hl
              have hE : Ext wr w2 := hG
              have hS := hE.size
              have q25 : f 7 = .bool true := tellV hp 0 7 rfl rfl (fun h => by cases h)
              have q41 : f 23 = .bool r := tellV hp 1 23 rfl rfl (fun h => by cases h)
              simp only [OpGoal]
              go_simp
              exact ⟨_, rfl, Ext.refl _, rfl⟩
          · intro f w2 hG hp
            have hE : Ext wr w2 := ChgS.nil hG
            have q42 : f 24 = .bool r := endV hp 24 (by decide) rfl (fun h => by cases h)
            try simp only [q42]
            clear hp
            have E2 := hX.trans hE
            cases r with
            | true =>
              have HT := Lib.hid (FirstM.turn hF.out (by omega) (by rw [hH.out.2.2.2, ← Hn.out]; exact hlt) (by rw [← HX1.out, ← HX2.out]; exact of_decide_eq_true Hr.out))
              go_wp2
              go_roundw
              case rel => exact ⟨2, (2 * i + 1 + 1), rfl, congrArg (Value.int .i64) (by omega), by omega, hlt, HT, E2⟩
              case measure => simp [intOf]
            | false =>
              have HT := Lib.hid (FirstM.stay hF.out (by omega) (.inr (by rw [← HX1.out, ← HX2.out]; exact of_decide_eq_false Hr.out)))
              go_wp2
              go_roundw
              case rel => exact ⟨2, fi, rfl, rfl, by omega, hfn, HT, E2⟩
              case measure => simp [intOf]
        · have hge' : ¬ (2 * (i : Int) + 2) < (n : Int) := by omega
          have HT := Lib.hid (FirstM.stay hF.out (by omega) (.inl (by rw [hH.out.2.2.2, ← Hn.out]; exact hge)))
          clear hk0 hkc
          go_wp2_with fail
          refine wp_region_puts [] [PP.val (.int .i64 (2 * (i : Int) + 2)), PP.val (.pointer (some ⟨p, 0, none⟩)), PP.val (.pointer (some ⟨p, 0, none⟩)), PP.val (.pointer (some ⟨p, 1, none⟩)), PP.val (.slice (some ⟨g, 0, none⟩) n cap), PP.val (.int .i64 (n : Int)), PP.val (.bool false), PP.val (.bool false), PP.any, PP.any, PP.any, PP.any, PP.any, PP.any, PP.any, PP.any, PP.any, PP.any, PP.any, PP.any, PP.any, PP.any, PP.any, PP.any, PP.val (.bool false)] [] [0, 1, 2, 3, 4, 5, 6, 7, 8, 9, 10, 11, 12, 13, 14, 15, 16, 17, 18, 19, 20, 21, 22, 23, 24]
            (by kernel_rfl) (by kernel_rfl) (fun f => (by simp only [fillR, fillL, List.setIfInBounds_toArray, List.set_cons_succ, List.set_cons_zero, Nat.reduceAdd]; rfl)) ?_ ?_ ?_ ?_ ?_
          · intro x hx; cases hx
          · intro x hx; cases hx
          · intro x hx; cases hx
          · refine ⟨?o0, ?o1, ?o2, ?o3, ?o4, ?o5, ?o6, ?o7, ?o8, ?o9, ?o10, ?o11, ?o12, ?o13, ?o14, ?o15, ?o16, ?o17, ?o18, ?o19, ?o20, ?o21, ?o22, ?o23, ?o24, trivial⟩
            case o0 =>
              intro f w2 hG hp hl
              have hE : Ext wr w2 := hG
              have hS := hE.size
              simp only [OpGoal]
              go_simp
              exact ⟨_, rfl, Ext.refl _, rfl⟩
            case o1 =>
              intro f w2 hG hp hl
              have hE : Ext wr w2 := hG
              have hS := hE.size
              simp only [OpGoal]
              go_simp
              exact ⟨_, rfl, Ext.refl _, rfl⟩
            case o2 =>
              intro f w2 hG hp hl
              have hE : Ext wr w2 := hG
              have hS := hE.size
              have q19 : f 1 = .pointer (some ⟨p, 0, none⟩) := tellV hp 0 1 rfl rfl (fun h => by cases h)
              simp only [OpGoal]
              go_simp
              exact ⟨_, rfl, Ext.refl _, rfl⟩
            case o3 =>
              intro f w2 hG hp hl
              have hE : Ext wr w2 := hG
              have hS := hE.size
              have q20 : f 2 = .pointer (some ⟨p, 0, none⟩) := tellV hp 0 2 rfl rfl (fun h => by cases h)
              simp only [OpGoal]
              go_simp
              exact ⟨_, rfl, Ext.refl _, rfl⟩
            case o4 =>
              intro f w2 hG hp hl
              have hE : Ext wr w2 := hG
              have hS := hE.size
              have q21 : f 3 = .pointer (some ⟨p, 1, none⟩) := tellV hp 0 3 rfl rfl (fun h => by cases h)
              have hcell := (P2.ext hE).cell 1
              simp only [OpGoal]
              go_simp
              exact ⟨_, rfl, Ext.refl _, rfl⟩
            case o5 =>
              intro f w2 hG hp hl
              have hE : Ext wr w2 := hG
              have hS := hE.size
              have q22 : f 4 = .slice (some ⟨g, 0, none⟩) n cap := tellV hp 0 4 rfl rfl (fun h => by cases h)
              simp only [OpGoal]
              go_simp
              exact ⟨_, rfl, Ext.refl _, rfl⟩
            case o6 =>
              intro f w2 hG hp hl
              have hE : Ext wr w2 := hG
              have hS := hE.size
              have q18 : f 0 = .int .i64 (2 * (i : Int) + 2) := tellV hp 0 0 rfl rfl (fun h => by cases h)
              have q23 : f 5 = .int .i64 (n : Int) := tellV hp 1 5 rfl rfl (fun h => by cases h)
              simp only [OpGoal]
              go_simp
              exact ⟨_, rfl, Ext.refl _, congrArg Value.bool (decide_eq_false (by omega))⟩
            case o7 =>
              intro f w2 hG hp hl
              have hE : Ext wr w2 := hG
              have hS := hE.size
              have q24 : f 6 = .bool false := tellV hp 0 6 rfl rfl (fun h => by cases h)
              simp only [OpGoal]
              go_simp
              exact ⟨_, rfl, Ext.refl _, rfl⟩
            case o8 =>
              intro f w2 hG hp hl
              have hE : Ext wr w2 := hG
              have hS := hE.size
              have qg : f 7 = .bool false := tellV hp 0 7 rfl rfl (fun h => by cases h)
              exact og_skip rfl qg (by decide) trivial
            case o9 =>
              intro f w2 hG hp hl
              have hE : Ext wr w2 := hG
              have hS := hE.size
              have qg : f 7 = .bool false := tellV hp 0 7 rfl rfl (fun h => by cases h)
              exact og_skip rfl qg (by decide) trivial
            case o10 =>
              intro f w2 hG hp hl
              have hE : Ext wr w2 := hG
              have hS := hE.size
              have qg : f 7 = .bool false := tellV hp 1 7 rfl rfl (fun h => by cases h)
              exact og_skip rfl qg (by decide) trivial
            case o11 =>
              intro f w2 hG hp hl
              have hE : Ext wr w2 := hG
              have hS := hE.size
              have qg : f 7 = .bool false := tellV hp 1 7 rfl rfl (fun h => by cases h)
              exact og_skip rfl qg (by decide) trivial
            case o12 =>
              intro f w2 hG hp hl
              have hE : Ext wr w2 := hG
              have hS := hE.size
              have qg : f 7 = .bool false := tellV hp 1 7 rfl rfl (fun h => by cases h)
              exact og_skip rfl qg (by decide) trivial
            case o13 =>
              intro f w2 hG hp hl
              have hE : Ext wr w2 := hG
              have hS := hE.size
              have qg : f 7 = .bool false := tellV hp 0 7 rfl rfl (fun h => by cases h)
              exact og_skip rfl qg (by decide) trivial
            case o14 =>
              intro f w2 hG hp hl
              have hE : Ext wr w2 := hG
              have hS := hE.size
              have qg : f 7 = .bool false := tellV hp 2 7 rfl rfl (fun h => by cases h)
              exact og_skip rfl qg (by decide) trivial
            case o15 =>
              intro f w2 hG hp hl
              have hE : Ext wr w2 := hG
              have hS := hE.size
              have qg : f 7 = .bool false := tellV hp 1 7 rfl rfl (fun h => by cases h)
              exact og_skip rfl qg (by decide) trivial
            case o16 =>
              intro f w2 hG hp hl
              have hE : Ext wr w2 := hG
              have hS := hE.size
              have qg : f 7 = .bool false := tellV hp 0 7 rfl rfl (fun h => by cases h)
              exact og_skip rfl qg (by decide) trivial
            case o17 =>
              intro f w2 hG hp hl
              have hE : Ext wr w2 := hG
              have hS := hE.size
              have qg : f 7 = .bool false := tellV hp 1 7 rfl rfl (fun h => by cases h)
              exact og_skip rfl qg (by decide) trivial
            case o18 =>
              intro f w2 hG hp hl
              have hE : Ext wr w2 := hG
              have hS := hE.size
              have qg : f 7 = .bool false := tellV hp 1 7 rfl rfl (fun h => by cases h)
              exact og_skip rfl qg (by decide) trivial
            case o19 =>
              intro f w2 hG hp hl
              have hE : Ext wr w2 := hG
              have hS := hE.size
              have qg : f 7 = .bool false := tellV hp 1 7 rfl rfl (fun h => by cases h)
              exact og_skip rfl qg (by decide) trivial
            case o20 =>
              intro f w2 hG hp hl
              have hE : Ext wr w2 := hG
              have hS := hE.size
              have qg : f 7 = .bool false := tellV hp 0 7 rfl rfl (fun h => by cases h)
              exact og_skip rfl qg (by decide) trivial
            case o21 =>
              intro f w2 hG hp hl
              have hE : Ext wr w2 := hG
              have hS := hE.size
              have qg : f 7 = .bool false := tellV hp 2 7 rfl rfl (fun h => by cases h)
              exact og_skip rfl qg (by decide) trivial
            case o22 =>
              intro f w2 hG hp hl
              have hE : Ext wr w2 := hG
              have hS := hE.size
              have qg : f 7 = .bool false := tellV hp 1 7 rfl rfl (fun h => by cases h)
              exact og_skip rfl qg (by decide) trivial
            case o23 =>
              intro f w2 hG hp hl
              have hE : Ext wr w2 := hG
              have hS := hE.size
              have qg : f 7 = .bool false := tellV hp 3 7 rfl rfl (fun h => by cases h)
              exact og_skip rfl qg (by decide) trivial
            case o24 =>
              intro f w2 hG hp hl
              have hE : Ext wr w2 := hG
              have hS := hE.size
              have q25 : f 7 = .bool false := tellV hp 0 7 rfl rfl (fun h => by cases h)
              simp only [OpGoal]
              go_simp
              exact ⟨_, rfl, Ext.refl _, rfl⟩
          · intro f w2 hG hp
            have hE : Ext wr w2 := ChgS.nil hG
            have q42 : f 24 = .bool false := endV hp 24 (by decide) rfl (fun h => by cases h)
            try simp only [q42]
            clear hp
            go_wp2
            go_roundw
            case rel => exact ⟨2, fi, rfl, rfl, by omega, hfn, HT, hX.trans hE⟩
            case measure => simp [intOf]
      · have P2 := P1.out.ext hX
        have N2 := hH.out.1.ext hX
        have hdn : d.size = n := hH.out.2.2.2.trans Hn.out.symm
        have hX1 := Lib.hid hF.out.out
        by_cases hfi : fi = i
        · subst hfi
          have HS := Lib.hid (DownInv.stop hH.out.2.1 hX1.out)
          have HNN := Lib.hid N2
          clear N2 hdn
          go_wp2
          refine bodyPost_ret (results_none (by kernel_rfl) _ _ _) rfl ?_
          exact ⟨rfl, hch.trans (hX.chg g), vs, d, HNN.out, HS.out, hH.out.2.2.1, hH.out.2.2.2⟩
        · have hfi' : ¬ (fi : Int) = (i : Int) := by omega
          have hif : i ≠ fi := fun h => hfi h.symm
          have HS := Lib.hid (DownInv.step hH.out.2.1 (by omega) hki hX1.out hfi)
          obtain ⟨b1, a1, n1, c1, e1, m1, f1, hv1, hcell1, hnd1⟩ := N2.at (i := i) (by omega)
          obtain ⟨b2, a2, n2, c2, e2, m2, f2, hv2, hcell2, hnd2⟩ := N2.at (i := fi) (by omega)
          have HC1 := Lib.hid hcell1
          have HC2 := Lib.hid hcell2
          have HN1 := Lib.hid hnd1
          have HN2 := Lib.hid hnd2
          have HV1 := Lib.hid hv1
          have HV2 := Lib.hid hv2
          obtain ⟨x1, hx1⟩ : ∃ x, x = d[i]! := ⟨_, rfl⟩
          obtain ⟨x2, hx2⟩ : ∃ x, x = d[fi]! := ⟨_, rfl⟩
          rw [← hx1] at HC1 HN1 HV1
          rw [← hx2] at HC2 HN2 HV2
          have HNN := Lib.hid N2
          have HDN := Lib.hid hdn
          clear hx1 hx2 hcell1 hcell2 hnd1 hnd2 hv1 hv2 N2
          have hin' : (i : Int) < (n : Int) := by omega
          have hfn' : (fi : Int) < (n : Int) := by omega
          go_wp2_with fail
          refine wp_region_swp g n i fi 25 27 rest vs (.agg #[.int .i64 x1.id, .int .i64 x1.depth, .bool b1, .slice a1 n1 c1, .slice e1 m1 f1]) (.agg #[.int .i64 x2.id, .int .i64 x2.depth, .bool b2, .slice a2 n2 c2, .slice e2 m2 f2]) [PP.val (.pointer (some ⟨p, 0, none⟩)), PP.val (.pointer (some ⟨p, 0, none⟩)), PP.val (.pointer (some ⟨p, 1, none⟩)), PP.val (.slice (some ⟨g, 0, none⟩) n cap), PP.val (.int .i64 (i : Int)), PP.val (.pointer (some ⟨p, 0, none⟩)), PP.val (.pointer (some ⟨p, 0, none⟩)), PP.val (.pointer (some ⟨p, 1, none⟩)), PP.val (.slice (some ⟨g, 0, none⟩) n cap), PP.val (.int .i64 (fi : Int)), PP.val (.pointer (some ⟨p, 0, none⟩)), PP.val (.pointer (some ⟨p, 0, none⟩)), PP.val (.pointer (some ⟨p, 1, none⟩)), PP.val (.slice (some ⟨g, 0, none⟩) n cap), PP.val (.int .i64 (fi : Int)), PP.val (.pointer (some ⟨g, fi * 5, none⟩)), PP.val (.agg #[.int .i64 x2.id, .int .i64 x2.depth, .bool b2, .slice a2 n2 c2, .slice e2 m2 f2]), PP.val (.pointer (some ⟨p, 0, none⟩)), PP.val (.pointer (some ⟨p, 0, none⟩)), PP.val (.pointer (some ⟨p, 1, none⟩)), PP.val (.slice (some ⟨g, 0, none⟩) n cap), PP.val (.int .i64 (i : Int)), PP.val (.pointer (some ⟨g, i * 5, none⟩)), PP.val (.agg #[.int .i64 x1.id, .int .i64 x1.depth, .bool b1, .slice a1 n1 c1, .slice e1 m1 f1]), PP.val (.pointer (some ⟨g, i * 5, none⟩)), PP.any, PP.val (.pointer (some ⟨g, fi * 5, none⟩)), PP.any] [] [25, 24, 23, 22, 21, 20, 19, 18, 17, 16, 15, 14, 13, 12, 11, 10, 8, 7, 6, 5, 4, 3, 2, 1, 0] (by kernel_rfl) (by kernel_rfl) (fun f => (by simp only [fillR, fillL, List.setIfInBounds_toArray, List.set_cons_succ, List.set_cons_zero, Nat.reduceAdd]; rfl)) hif (by decide) (HNN.out.1.trans HDN.out) HNN.out.2.1 hin hfn (by intro p hp; simp only [List.mem_cons, List.not_mem_nil, or_false] at hp; rcases hp with rfl | rfl | rfl | rfl | rfl | rfl | rfl | rfl | rfl | rfl | rfl | rfl | rfl | rfl | rfl | rfl | rfl | rfl | rfl | rfl | rfl | rfl | rfl | rfl | rfl | rfl | rfl | rfl <;> rfl) ?_ ?_ (by decide) (by decide)
          · refine ⟨?o0, ?o1, ?o2, ?o3, ?o4, ?o5, ?o6, ?o7, ?o8, ?o9, ?o10, ?o11, ?o12, ?o13, ?o14, ?o15, ?o16, ?o17, ?o18, ?o19, ?o20, ?o21, ?o22, ?o23, ?o24, ?o25, ?o26, ?o27, trivial⟩
            case o0 =>
              intro f w2 hG hp hl
              have hE : Ext wr w2 := hG
              have hS := hE.size
              simp only [OpGoal]
              go_simp
              exact ⟨_, rfl, Ext.refl _, rfl⟩
            case o1 =>
              intro f w2 hG hp hl
              have hE : Ext wr w2 := hG
              have hS := hE.size
              have q48 : f 0 = .pointer (some ⟨p, 0, none⟩) := tellM hp 0 0 rfl rfl
              simp only [OpGoal]
              go_simp
              exact ⟨_, rfl, Ext.refl _, rfl⟩
            case o2 =>
              intro f w2 hG hp hl
              have hE : Ext wr w2 := hG
              have hS := hE.size
              have q49 : f 1 = .pointer (some ⟨p, 0, none⟩) := tellM hp 0 1 rfl rfl
              simp only [OpGoal]
              go_simp
              exact ⟨_, rfl, Ext.refl _, rfl⟩
            case o3 =>
              intro f w2 hG hp hl
              have hE : Ext wr w2 := hG
              have hS := hE.size
              have q50 : f 2 = .pointer (some ⟨p, 1, none⟩) := tellM hp 0 2 rfl rfl
              have hcell := (P2.ext hE).cell 1
              simp only [OpGoal]
              go_simp
              exact ⟨_, rfl, Ext.refl _, rfl⟩
            case o4 =>
              intro f w2 hG hp hl
              have hE : Ext wr w2 := hG
              have hS := hE.size
              simp only [OpGoal]
              go_simp
              exact ⟨_, rfl, Ext.refl _, rfl⟩
            case o5 =>
              intro f w2 hG hp hl
              have hE : Ext wr w2 := hG
              have hS := hE.size
              simp only [OpGoal]
              go_simp
              exact ⟨_, rfl, Ext.refl _, rfl⟩
            case o6 =>
              intro f w2 hG hp hl
              have hE : Ext wr w2 := hG
              have hS := hE.size
              have q53 : f 5 = .pointer (some ⟨p, 0, none⟩) := tellM hp 0 5 rfl rfl
              simp only [OpGoal]
              go_simp
              exact ⟨_, rfl, Ext.refl _, rfl⟩
            case o7 =>
              intro f w2 hG hp hl
              have hE : Ext wr w2 := hG
              have hS := hE.size
              have q54 : f 6 = .pointer (some ⟨p, 0, none⟩) := tellM hp 0 6 rfl rfl
              simp only [OpGoal]
              go_simp
              exact ⟨_, rfl, Ext.refl _, rfl⟩
            case o8 =>
              intro f w2 hG hp hl
              have hE : Ext wr w2 := hG
              have hS := hE.size
              have q55 : f 7 = .pointer (some ⟨p, 1, none⟩) := tellM hp 0 7 rfl rfl
              have hcell := (P2.ext hE).cell 1
              simp only [OpGoal]
              go_simp
              exact ⟨_, rfl, Ext.refl _, rfl⟩
            case o9 =>
              intro f w2 hG hp hl
              have hS : wr.heap.size ≤ w2.heap.size := hG.2.2.2.1
              simp only [OpGoal]
              go_simp
              exact ⟨_, rfl, Ext.refl _, rfl⟩
            case o10 =>
              intro f w2 hG hp hl
              have hE : Ext wr w2 := hG
              have hS := hE.size
              simp only [OpGoal]
              go_simp
              exact ⟨_, rfl, Ext.refl _, rfl⟩
            case o11 =>
              intro f w2 hG hp hl
              have hE : Ext wr w2 := hG
              have hS := hE.size
              have q58 : f 10 = .pointer (some ⟨p, 0, none⟩) := tellM hp 0 10 rfl rfl
              simp only [OpGoal]
              go_simp
              exact ⟨_, rfl, Ext.refl _, rfl⟩
            case o12 =>
              intro f w2 hG hp hl
              have hE : Ext wr w2 := hG
              have hS := hE.size
              have q59 : f 11 = .pointer (some ⟨p, 0, none⟩) := tellM hp 0 11 rfl rfl
              simp only [OpGoal]
              go_simp
              exact ⟨_, rfl, Ext.refl _, rfl⟩
            case o13 =>
              intro f w2 hG hp hl
              have hE : Ext wr w2 := hG
              have hS := hE.size
              have q60 : f 12 = .pointer (some ⟨p, 1, none⟩) := tellM hp 0 12 rfl rfl
              have hcell := (P2.ext hE).cell 1
              simp only [OpGoal]
              go_simp
              exact ⟨_, rfl, Ext.refl _, rfl⟩
            case o14 =>
              intro f w2 hG hp hl
              have hE : Ext wr w2 := hG
              have hS := hE.size
              simp only [OpGoal]
              go_simp
              exact ⟨_, rfl, Ext.refl _, rfl⟩
            case o15 =>
              intro f w2 hG hp hl
              have hE : Ext wr w2 := hG
              have hS := hE.size
              have q61 : f 13 = .slice (some ⟨g, 0, none⟩) n cap := tellM hp 0 13 rfl rfl
              have q62 : f 14 = .int .i64 (fi : Int) := tellM hp 1 14 rfl rfl
              simp only [OpGoal]
              go_simp
              exact ⟨_, rfl, Ext.refl _, rfl⟩
            case o16 =>
              intro f w2 hG hp hl
              have hE : Ext wr w2 := hG
              have hS := hE.size
              have q63 : f 15 = .pointer (some ⟨g, fi * 5, none⟩) := tellM hp 0 15 rfl rfl
              change OpGoal _ _ _ f w2 Ext _
              exact og_loadAt (P := Try.prog) _ _ g (fi * 5) _ _ rfl rfl q63 (fun j v h => HC2.out _ hE j v h) Try.underlying74 rfl (by kernel_rfl) rfl
            case o17 =>
              intro f w2 hG hp hl
              have hE : Ext wr w2 := hG
              have hS := hE.size
              simp only [OpGoal]
              go_simp
              exact ⟨_, rfl, Ext.refl _, rfl⟩
            case o18 =>
              intro f w2 hG hp hl
              have hE : Ext wr w2 := hG
              have hS := hE.size
              have q65 : f 17 = .pointer (some ⟨p, 0, none⟩) := tellM hp 0 17 rfl rfl
              simp only [OpGoal]
              go_simp
              exact ⟨_, rfl, Ext.refl _, rfl⟩
            case o19 =>
              intro f w2 hG hp hl
              have hE : Ext wr w2 := hG
              have hS := hE.size
              have q66 : f 18 = .pointer (some ⟨p, 0, none⟩) := tellM hp 0 18 rfl rfl
              simp only [OpGoal]
              go_simp
              exact ⟨_, rfl, Ext.refl _, rfl⟩
            case o20 =>
              intro f w2 hG hp hl
              have hE : Ext wr w2 := hG
              have hS := hE.size
              have q67 : f 19 = .pointer (some ⟨p, 1, none⟩) := tellM hp 0 19 rfl rfl
              have hcell := (P2.ext hE).cell 1
              simp only [OpGoal]
              go_simp
              exact ⟨_, rfl, Ext.refl _, rfl⟩
            case o21 =>
              intro f w2 hG hp hl
              have hE : Ext wr w2 := hG
              have hS := hE.size
              simp only [OpGoal]
              go_simp
              exact ⟨_, rfl, Ext.refl _, rfl⟩
            case o22 =>
              intro f w2 hG hp hl
              have hE : Ext wr w2 := hG
              have hS := hE.size
              have q68 : f 20 = .slice (some ⟨g, 0, none⟩) n cap := tellM hp 0 20 rfl rfl
              have q69 : f 21 = .int .i64 (i : Int) := tellM hp 1 21 rfl rfl
              simp only [OpGoal]
              go_simp
              exact ⟨_, rfl, Ext.refl _, rfl⟩
            case o23 =>
              intro f w2 hG hp hl
              have hE : Ext wr w2 := hG
              have hS := hE.size
              have q70 : f 22 = .pointer (some ⟨g, i * 5, none⟩) := tellM hp 0 22 rfl rfl
              change OpGoal _ _ _ f w2 Ext _
              exact og_loadAt (P := Try.prog) _ _ g (i * 5) _ _ rfl rfl q70 (fun j v h => HC1.out _ hE j v h) Try.underlying74 rfl (by kernel_rfl) rfl
            case o24 =>
              intro f w2 hG hp hl
              have hE : Ext wr w2 := hG
              have hS := hE.size
              have q51 : f 3 = .slice (some ⟨g, 0, none⟩) n cap := tellM hp 0 3 rfl rfl
              have q52 : f 4 = .int .i64 (i : Int) := tellM hp 1 4 rfl rfl
              simp only [OpGoal]
              go_simp
              exact ⟨_, rfl, Ext.refl _, rfl⟩
            case o25 =>
              intro f w2 hG hp hl
              have hE : Ext wr w2 := hG
              have hS := hE.size
              have q72 : f 24 = .pointer (some ⟨g, i * 5, none⟩) := tellM hp 0 24 rfl rfl
              have q64 : f 16 = .agg #[.int .i64 x2.id, .int .i64 x2.depth, .bool b2, .slice a2 n2 c2, .slice e2 m2 f2] := tellM hp 1 16 rfl rfl
              intro hI hU
              exact og_stN (P := Try.prog) g n _ _ 25 i _ _ _ _ _ _ rfl rfl q72 q64 hin (by kernel_rfl) (HN2.out.five) hI
            case o26 =>
              intro f w2 hG hp hl
              have hS : wr.heap.size ≤ w2.heap.size := hG.2.2.2.1
              have q56 : f 8 = .slice (some ⟨g, 0, none⟩) n cap := tellM hp 0 8 rfl rfl
              have q57 : f 9 = .int .i64 (fi : Int) := tellM hp 1 9 rfl rfl
              simp only [OpGoal]
              go_simp
              exact ⟨_, rfl, Ext.refl _, rfl⟩
            case o27 =>
              intro f w2 hG hp hl
              have hS : wr.heap.size ≤ w2.heap.size := hG.2.2.2.1
              have q73 : f 26 = .pointer (some ⟨g, fi * 5, none⟩) := tellM hp 0 26 rfl rfl
              have q71 : f 23 = .agg #[.int .i64 x1.id, .int .i64 x1.depth, .bool b1, .slice a1 n1 c1, .slice e1 m1 f1] := tellM hp 1 23 rfl rfl
              intro hI hU
              exact og_stN (P := Try.prog) g n _ _ 27 fi _ _ _ _ _ _ rfl rfl q73 q71 hfn (by kernel_rfl) (HN1.out.five) hI
          · intro f w2 hC hW hp
            clear hp
            have HSw := Lib.hid (HNN.out.swap hC (by rw [HDN.out]; exact hin) (by rw [HDN.out]; exact hfn) HV1.out HV2.out hW)
            clear hW
            go_wp2
            go_roundw
            case rel => exact ⟨fi, _, _, rfl, hfn, by rcases hF.out.1 with h | ⟨h, -⟩ | ⟨h, -⟩ <;> omega, Lib.hid ⟨HSw.out, HS.out, (Array.perm_iff_toList_perm.1 (Array.swap_perm _ _)).trans hH.out.2.2.1, by rw [Array.size_swap]; exact hH.out.2.2.2⟩, (hch.trans (hX.chg g)).trans hC⟩
            case measure => have : i < fi := by (rcases hF.out.1 with h | ⟨h, -⟩ | ⟨h, -⟩ <;> omega)
                            simp [intOf]; omega
end Go.Proofs.Ytkcnnlhaiahpbaa

/-
  A node put behind a list.
-/
namespace Go.Proofs.Ytkcnnlhaiahpbaa
open Go.RowKit
set_option linter.unusedVariables false
set_option linter.unusedSimpArgs false

/-- The list of the nodes d as the queue keeps it: nothing yet, or a block of its own. -/
def QHeap (B k : Nat) (w : World) (hv : Value) (d : Array Nd) : Prop := ∃ vs : List Value, vs.length = d.size ∧ Five vs ∧ w.ownsRow B 74 5 hv d.size (flat vs) ∧ ∀ (i : Nat) (v : Value), vs[i]? = some v → NdV B k w v d[i]!
set_option maxRecDepth 100000 in
set_option maxHeartbeats 1000000 in
/-- A fact on a fraction stays when blocks of other things change. -/
theorem FrL.chgB {e : TypeId} {k : IntKind} {B0 : Nat} {w w' : World} {v : Value} {xs : List Nat} {bs : List Nat} (h : FrL e k B0 w v xs) (hc : ChgS bs w w') (hb : ∀ g ∈ bs, ∃ t cs, Bx t w g cs ∧ t ≠ e) : FrL e k B0 w' v xs := by
  obtain ⟨ad, cap, h1, h2, h3, h4⟩ := h
  refine ⟨ad, cap, h1, h2, h3, ?_⟩
  rcases h4 with h4 | ⟨g, cur, h4, h5, h6, h7⟩
  · exact .inl h4
  · refine .inr ⟨g, cur, h4, h5, hc.blk h6 fun hm => ?_, h7⟩
    obtain ⟨t, cs, hbx, hne⟩ := hb g hm
    unfold Bx at hbx
    rw [h6] at hbx
    simp only [Option.some.injEq, Obj.cells.injEq] at hbx
    exact hne hbx.2.1.symm
set_option maxRecDepth 100000 in
set_option maxHeartbeats 1000000 in
theorem NdV.chgB {B k : Nat} {w w' : World} {v : Value} {x : Nd} {bs : List Nat} (h : NdV B k w v x) (hc : ChgS bs w w') (hb : ∀ g ∈ bs, ∃ t cs, Bx t w g cs ∧ t ≠ 105) : NdV B k w' v x := by
  obtain ⟨b, a1, n1, c1, a2, n2, c2, h1, ⟨s, t, hst, hs, ht⟩, h3⟩ := h
  exact ⟨b, a1, n1, c1, a2, n2, c2, h1, ⟨s, t, hst, FrL.chgB hs hc hb, FrL.chgB ht hc hb⟩, h3⟩
set_option maxRecDepth 100000 in
set_option maxHeartbeats 1000000 in
theorem ownsRow_ext {B e size n : Nat} {w w' : World} {v : Value} {xs : List Value} (h : w.ownsRow B e size v n xs) (he : Ext w w') : w'.ownsRow B e size v n xs := by
  refine ⟨h.1, ?_⟩
  rcases h.2 with h2 | ⟨g, cap, cur, h1, h2, h3, h4⟩
  · exact .inl h2
  · exact .inr ⟨g, cap, cur, h1, h2, he.blk h3, h4⟩
set_option maxRecDepth 100000 in
set_option maxHeartbeats 1000000 in
theorem ownsRow_chg {B e size n p : Nat} {w w' : World} {v : Value} {xs : List Value} {t : TypeId} {cs : Array Value} (h : w.ownsRow B e size v n xs) (he : Chg p w w') (hp : Bx t w p cs) (ht : t ≠ e) : w'.ownsRow B e size v n xs := by
  refine ⟨h.1, ?_⟩
  rcases h.2 with h2 | ⟨g, cap, cur, h1, h2, h3, h4⟩
  · exact .inl h2
  · refine .inr ⟨g, cap, cur, h1, h2, he.blk h3 ?_, h4⟩
    rintro rfl
    unfold Bx at hp
    rw [h3] at hp
    simp only [Option.some.injEq, Obj.cells.injEq] at hp
    exact ht hp.2.1.symm
set_option maxRecDepth 100000 in
set_option maxHeartbeats 1000000 in
theorem ownsRow_len {B e size n : Nat} {w : World} {v : Value} {xs : List Value} (h : w.ownsRow B e size v n xs) : ∃ ad cap, v = .slice ad n cap := by
  rcases h.2 with ⟨h1, h2⟩ | ⟨g, cap, cur, h1, -⟩
  · exact ⟨none, 0, by rw [h1, h2]⟩
  · exact ⟨_, cap, h1⟩

/-- The append, at its region: what it finds and does. -/
def stA (S gA p : Nat) (ord hv : Value) (B n : Nat) (xs : List Value) (s : Nat) : Sm :=
  ⟨s, gA, fun a _ => Bx 123 a p #[ord, hv], fun w b => b.heap[gA]? = w.heap[gA]?, fun v b => b.ownsRow B 74 5 v (n + 1) xs ∧ ∀ g, v.ownBlock = some g → hv.ownBlock = some g ∨ S ≤ g⟩
/-- The store into the queue behind it. -/
def stQ (S p : Nat) (ord hv : Value) (B n : Nat) (xs : List Value) (s : Nat) : Sm :=
  ⟨s, p, fun a b => ∃ c, Bx 123 a p c, fun w b => b.heap[p]? = w.heap[p]?, fun _ b => ∃ v, Bx 123 b p #[ord, v] ∧ b.ownsRow B 74 5 v (n + 1) xs ∧ ∀ g, v.ownBlock = some g → hv.ownBlock = some g ∨ S ≤ g⟩
set_option maxRecDepth 100000 in
set_option maxHeartbeats 1000000 in
/-- Where the list lies behind an append: where it lay, or in a new block. -/
theorem append_where {P : Program} (w : World) (base : Nat) (t ty e : TypeId) (i : TypeInfo) (z : Value) (size bytes : Nat) (ht : P.underlying t = some (.slice e)) (hi : P.info? e = some i) (hz : i.zero = some z)
    (hsize : i.size = size) (hby : i.bytes = bytes) (v : Value) (n : Nat) (xs : List Value) (hown : w.ownsRow base e size v n xs)
    (a : Addr) (m c : Nat) (news : List Value) (hl : news.length = m * size) (hnews : ∀ j u, news[j]? = some u → w.cell? (a.add j) = some u) (h1 : ∀ u ∈ news, u.oneCell' = true)
    (hm : 0 < m) (h63 : n + m ≤ maxLen) (hbytes : (n + m) * bytes ≤ 140737488355328) (v' : Value) (w' : World) (hrun : (Builtin.append_ #[t, t] ty #[v, .slice (some a) m c]).run P w = .ok v' w') :
    ∀ g, v'.ownBlock = some g → v.ownBlock = some g ∨ w.heap.size ≤ g := by
  subst hsize hby
  have hsmall : n + m ≤ 9223372036854775807 := by simp only [maxLen] at h63; omega
  intro g0 hg0
  rcases hown.2 with ⟨rfl, rfl⟩ | ⟨g, cap, cur, rfl, hbg, hg, hnc, hcm, hcs, htake⟩
  · have hr := run_append_nil (P := P) w t ty e i z ht hi hz a m c news hl hnews (by omega) (by omega) (by have hb := hbytes; simp only [Nat.zero_add] at hb; omega)
    rw [hr] at hrun
    cases hrun
    simp only [Value.ownBlock, Option.some.injEq] at hg0
    exact .inr (by omega)
  · by_cases hroom : n + m ≤ cap
    · have hfit : n * i.size + news.length ≤ cur.size := by rw [hl, hcs, ← Nat.add_mul]; exact Nat.mul_le_mul_right _ hroom
      have hr := run_append_room (P := P) w t ty e i ht hi g n cap cur hg a m c news hl hnews h1 hroom hfit
      rw [hr] at hrun
      cases hrun
      exact .inl hg0
    · have holds : ∀ j u, xs[j]? = some u → w.cell? ((⟨g, 0, none⟩ : Addr).add j) = some u := hown.cells (g := g) rfl
      have hr := run_append_grow (P := P) w t ty e i z ht hi hz ⟨g, 0, none⟩ n cap xs hown.1 holds a m c news hl hnews (by omega) (by omega) (growslice_fits (by omega) hbytes)
      rw [hr] at hrun
      cases hrun
      simp only [Value.ownBlock, Option.some.injEq] at hg0
      exact .inr (by omega)
set_option maxRecDepth 100000 in
set_option maxHeartbeats 1000000 in
theorem og_append {P : Program} {o : Oper} {a : Act} {f : Nat → Value} {w : World} {R : World → World → Prop} {post : Value → World → Prop} (s x : Operand) (t : TypeId) (hgd : o.guard = none) (ho : o.op = .call { callee := .builtin .append, args := #[s, x], argTypes := #[t, t] })
    (base : Nat) (e : TypeId) (size bytes : Nat) (ht : P.underlying t = some (.slice e)) (hi : (P.info? e).map (fun i => (i.size, i.bytes)) = some (size, bytes)) (hz : ((P.info? e).bind (·.zero)).map (·.cells.size) = some size) (hsz : 0 < size)
    (v : Value) (n : Nat) (xs : List Value) (hs : a.eval s = v) (hown : w.ownsRow base e size v n xs)
    (ad : Addr) (m c : Nat) (news : List Value) (hx : a.eval x = .slice (some ad) m c) (hl : news.length = m * size) (hnews : ∀ j u, news[j]? = some u → w.cell? (ad.add j) = some u) (h1 : ∀ u ∈ news, u.oneCell' = true)
    (hm : 0 < m) (h63 : n + m ≤ maxLen) (hbytes : (n + m) * bytes ≤ 140737488355328) (hbase : base ≤ w.heap.size)
    (h : ∀ v' w', w'.ownsRow base e size v' (n + m) (xs ++ news) → w.grownBy w' v.ownBlock → (∀ g, v'.ownBlock = some g → v.ownBlock = some g ∨ w.heap.size ≤ g) → R w w' ∧ post v' w') : OpGoal P o a f w R post := by
  unfold OpGoal
  rw [hgd]
  cases hie : P.info? e with
  | none => simp [hie] at hi
  | some i =>
    simp only [hie, Option.map_some, Option.some.injEq, Prod.mk.injEq, Option.bind_some] at hi hz
    cases hiz : i.zero with
    | none => rw [hiz] at hz; cases hz
    | some z =>
      rw [hiz] at hz
      obtain ⟨v', w', hr, h2, h3, -⟩ := run_append_own (P := P) w base t o.type e i z size bytes ht hie hiz hi.1 hi.2 (by simpa using hz) hsz v n xs hown ad m c news hl hnews h1 h63 hbytes hbase
      have h4 := append_where w base t o.type e i z size bytes ht hie hiz hi.1 hi.2 v n xs hown ad m c news hl hnews h1 hm h63 hbytes v' w' hr
      unfold Oper.wp
      simp [execOp, ho, resolve, invoke, builtin, hs, hx, hr, Result.andThen]
      exact ⟨v', rfl, h v' w' h2 h3 h4⟩

set_option maxRecDepth 100000 in
set_option maxHeartbeats 1000000 in
/-- ONE IS APPENDED, AND THE LIST STORED, in a region that draws its order. -/
theorem wp_region_app {P : Program} {id : Nat} {l : List Oper} {Q : Exit → Act → World → Prop} {tmps : Array Value} {df : List Deferred} {w : World} {fr : (Nat → Value) → Array Value}
    (S gA p B n s1 s2 : Nat) (ord hv : Value) (xs : List Value) (L : List (PP w.heap.size)) (lates : List (Nat × Nat × Nat)) (pre : List Nat)
    (hm : P.follows .mixedOrders = true) (hok : (regOk l.toArray tmps.size && lateOk l.toArray lates && ([stA S gA p ord hv B n xs s1, stQ S p ord hv B n xs s2].map (·.s)).all fun s => ancOk l.toArray [s] (pre.filter (· != s))) = true)
    (hfr : ∀ f, fillR l.toArray tmps f = fr f)
    (hss : s1 ≠ s2) (hpa : gA ≠ p) (hA : gA < w.heap.size) (hp : Bx 123 w p #[ord, hv]) (hvn : ∃ ad cap, hv = .slice ad n cap) (hL : ∀ p ∈ L, p.c = false)
    (hstep : OwesM P fr df w [stA S gA p ord hv B n xs s1, stQ S p ord hv B n xs s2] (fun _ => True) L lates tmps pre l 0)
    (hend : ∀ f w1, ChgS [gA, p] w w1 → (∃ v, Bx 123 w1 p #[ord, v] ∧ w1.ownsRow B 74 5 v (n + 1) xs ∧ ∀ g, v.ownBlock = some g → hv.ownBlock = some g ∨ S ≤ g) → AllPosts (postM [stA S gA p ord hv B n xs s1, stQ S p ord hv B n xs s2] L) f w1 l.length 0 → Q .normal ⟨fr f, df⟩ w1)
    (hs2 : s2 < l.length) :
    (Code.region id l.toArray true).wp P Q ⟨tmps, df⟩ w := by
  have hlt := blk_lt hp
  have hmem : ∀ x ∈ [stA S gA p ord hv B n xs s1, stQ S p ord hv B n xs s2], x = stA S gA p ord hv B n xs s1 ∨ x = stQ S p ord hv B n xs s2 := fun x hx => by simpa using hx
  have hat1 : smAt [stA S gA p ord hv B n xs s1, stQ S p ord hv B n xs s2] s1 = some (stA S gA p ord hv B n xs s1) := by simp [smAt, stA]
  have hat2 : smAt [stA S gA p ord hv B n xs s1, stQ S p ord hv B n xs s2] s2 = some (stQ S p ord hv B n xs s2) := by simp [smAt, stA, stQ, Ne.symm hss]
  refine wp_region_mut [stA S gA p ord hv B n xs s1, stQ S p ord hv B n xs s2] (fun _ => True) L lates pre hm hok hfr ?_ ?_ hL trivial (fun _ _ _ _ => trivial) (fun _ _ _ _ _ _ _ => trivial) ?_ ?_ ?_ ?_ ?_ ?_ hstep ?_
  · intro x hx
    rcases hmem x hx with rfl | rfl
    · exact hA
    · exact hlt
  · intro x hx
    rcases hmem x hx with rfl | rfl
    · exact hat1
    · exact hat2
  · intro x hx v w1 w2 he hF
    rcases hmem x hx with rfl | rfl
    · exact ⟨ownsRow_ext hF.1 he, hF.2⟩
    · obtain ⟨u, h1, h2, h3⟩ := hF
      exact ⟨u, h1.ext he, ownsRow_ext h2 he, h3⟩
  · intro x hx y hy hne v w1 w2 hch hR hF
    rcases hmem x hx with rfl | rfl <;> rcases hmem y hy with rfl | rfl
    · exact absurd rfl hne
    · obtain ⟨c, hc⟩ := hR
      exact ⟨ownsRow_chg hF.1 hch hc (by decide), hF.2⟩
    · obtain ⟨u, h1, h2, -⟩ := hF
      have h3 : Bx 123 w1 p #[ord, hv] := hR
      unfold Bx at h1 h3
      rw [h1] at h3
      simp only [Option.some.injEq, Obj.cells.injEq, and_true] at h3
      have h4 : u = hv := by
        have := congrArg Array.toList h3
        simp at this
        exact this
      subst h4
      obtain ⟨a2, c2, h5⟩ := ownsRow_len h2
      obtain ⟨a3, c3, h6⟩ := hvn
      rw [h6] at h5
      simp at h5
    · exact absurd rfl hne
  · intro x hx
    rcases hmem x hx with rfl | rfl <;> rfl
  · intro x hx w1 w2 hs he hU
    rcases hmem x hx with rfl | rfl
    · exact (he.heap (Nat.lt_of_lt_of_le hA hs)).trans hU
    · exact (he.heap (Nat.lt_of_lt_of_le hlt hs)).trans hU
  · intro x hx y hy hne w1 w2 hs hch hR hU
    rcases hmem x hx with rfl | rfl <;> rcases hmem y hy with rfl | rfl
    · exact absurd rfl hne
    · exact (hch.heap (Nat.lt_of_lt_of_le hA hs) hpa).trans hU
    · exact (hch.heap (Nat.lt_of_lt_of_le hlt hs) (Ne.symm hpa)).trans hU
    · exact absurd rfl hne
  · intro w1 hG _ hU
    have h1 : w1.heap[gA]? = w.heap[gA]? := hU (stA S gA p ord hv B n xs s1) (by simp)
    have h2 : w1.heap[p]? = w.heap[p]? := hU (stQ S p ord hv B n xs s2) (by simp)
    refine ⟨hG.1, hG.2.1, hG.2.2.1, hG.2.2.2.1, fun j hj _ => ?_⟩
    by_cases hjg : j = gA
    · rw [hjg]; exact h1
    · by_cases hjp : j = p
      · rw [hjp]; exact h2
      · exact hG.2.2.2.2 j hj (by simp [stA, stQ]; exact ⟨hjg, hjp⟩)
  · intro f w1 hG _ hp'
    have hF := endMS hp' s2 hs2 hat2
    exact hend f w1 hG hF hp'
end Go.Proofs.Ytkcnnlhaiahpbaa

/-
  A node put into the queue.
-/
namespace Go.Proofs.Ytkcnnlhaiahpbaa
open Go.RowKit
set_option linter.unusedVariables false
set_option linter.unusedSimpArgs false

set_option maxRecDepth 100000 in
set_option maxHeartbeats 1000000 in
theorem Code.wp_weak {P : Program} {c : Code} {a : Act} {w : World} {Q Q' : Exit → Act → World → Prop} (h : c.wp P Q a w) (hQ : ∀ e a w, Q e a w → Q' e a w) : c.wp P Q' a w := by
  intro b k cs
  obtain ⟨e, a1, w1, hq, harr⟩ := h b k cs
  exact ⟨e, a1, w1, hQ _ _ _ hq, harr⟩
set_option maxRecDepth 100000 in
set_option maxHeartbeats 1000000 in
/-- A scope with one label: the pass from the label, told once. -/
theorem wp_scope_label {P : Program} {a : Act} {w : World} {Q : Exit → Act → World → Prop} {c rest : Code} (l : Nat) (J : Act → World → Prop) (μ : Act → World → Nat) (hf : findLabel c l = some (Code.skip.seq rest))
    (pass : ∀ a w, J a w → rest.wp P (Exit.jump l (fun a' w' => J a' w' ∧ μ a' w' < μ a w) Q) a w)
    (first : (∀ a w, J a w → rest.wp P (Exit.jump l J Q) a w) → c.wp P (Exit.jump l J Q) a w) : (Code.scope c).wp P Q a w :=
  wp_scope_jumps l J μ hf (first fun a w hJ => Code.wp_weak (pass a w hJ) (fun e a' w' h => by
    cases e with
    | goto l' => exact ⟨h.1, h.2.1⟩
    | _ => exact h)) fun a w hJ => wp_seq (wp_skip (pass a w hJ))
set_option maxRecDepth 100000 in
set_option maxHeartbeats 1000000 in
theorem ChgS.stepC {bs : List Nat} {w w1 w2 : World} {g : Nat} (h : ChgS bs w w1) (hc : Chg g w1 w2) (hg : g ∈ bs ∨ w.heap.size ≤ g) : ChgS bs w w2 :=
  ⟨(World.grownBy.os hc).trans h.1, (World.grownBy.tape hc).trans h.2.1, (World.grownBy.output hc).trans h.2.2.1, Nat.le_trans h.2.2.2.1 hc.size, fun k hk hn => (hc.heap (Nat.lt_of_lt_of_le hk h.2.2.2.1) (fun e => by subst e; rcases hg with hg | hg; exact hn hg; omega)).trans (h.2.2.2.2 k hk hn)⟩
set_option maxRecDepth 100000 in
set_option maxHeartbeats 1000000 in
theorem ChgS.more {bs cs : List Nat} {w w1 w2 : World} (h : ChgS bs w w1) (k : ChgS cs w1 w2) (hb : ∀ g ∈ cs, g ∈ bs ∨ w.heap.size ≤ g) : ChgS bs w w2 :=
  ⟨k.1.trans h.1, k.2.1.trans h.2.1, k.2.2.1.trans h.2.2.1, Nat.le_trans h.2.2.2.1 k.2.2.2.1, fun i hi hn => (k.2.2.2.2 i (Nat.lt_of_lt_of_le hi h.2.2.2.1) (fun hm => by rcases hb i hm with h1 | h1; exact hn h1; omega)).trans (h.2.2.2.2 i hi hn)⟩
/-- The blocks that a list lies in. -/
def blks (hv : Value) : List Nat := match hv.ownBlock with | some g => [g] | none => []

/-- One struct written out. -/
def PP.one {S : Nat} (cs : Array Value) : PP S := ⟨false, fun u w => ∃ g, S ≤ g ∧ u = .slice (some ⟨g, 0, none⟩) 1 1 ∧ Bx 74 w g cs, fun _ _ _ h hp => (let ⟨g, h1, h2, h3⟩ := hp; ⟨g, h1, h2, h3.ext h⟩), fun _ _ hg _ _ _ h hp => (let ⟨g, h1, h2, h3⟩ := hp; ⟨g, h1, h2, h3.chg h (by omega)⟩)⟩
set_option maxRecDepth 100000 in
set_option maxHeartbeats 1000000 in
theorem ownsRow_hold {B n : Nat} {w : World} {v : Value} {vs : List Value} (h : w.ownsRow B 74 5 v (n + 1) (flat vs)) (h5 : Five vs) (hl : vs.length = n + 1) : ∃ g cap rest, v = .slice (some ⟨g, 0, none⟩) (n + 1) cap ∧ B ≤ g ∧ n + 1 ≤ cap ∧ cap ≤ 9223372036854775807 ∧ vs.length * 5 + rest.length = cap * 5 ∧ HoldN g rest w vs := by
  rcases h.2 with ⟨_, h2⟩ | ⟨g, cap, cur, h1, h2, h3, h4, h6, h7, h8⟩
  · omega
  · refine ⟨g, cap, cur.toList.drop ((n + 1) * 5), h1, h2, h4, by unfold maxLen at h6; omega, ?_, h5, ?_⟩
    · have h9 : cur.toList.length = cap * 5 := by rw [Array.length_toList]; exact h7
      rw [List.length_drop, h9, hl]
      omega
    · unfold Bx
      rw [← h8, List.take_append_drop]
      exact h3
set_option maxRecDepth 100000 in
set_option maxHeartbeats 1000000 in
theorem hold_qheap {B k g cap n : Nat} {rest : List Value} {w : World} {vs : List Value} {d : Array Nd} (h : Nds B k g rest w vs d) (hB : B ≤ g) (hn : d.size = n) (hc : n ≤ cap) (hm : cap ≤ 9223372036854775807) (hl : vs.length * 5 + rest.length = cap * 5) : QHeap B k w (.slice (some ⟨g, 0, none⟩) n cap) d := by
  refine ⟨vs, h.1, h.2.1.1, ⟨?_, .inr ⟨g, cap, _, by rw [hn], hB, h.2.1.2, by omega, by unfold maxLen; omega, ?_, ?_⟩⟩, h.2.2⟩
  · rw [flat_len h.2.1.1.size, h.1]
  · simp only [List.size_toArray, List.length_append]
    rw [flat_len h.2.1.1.size]
    exact hl
  · show (flat vs ++ rest).take (d.size * 5) = flat vs
    rw [List.take_append_of_le_length (by rw [flat_len h.2.1.1.size, h.1]; exact Nat.le_refl _), List.take_of_length_le (by rw [flat_len h.2.1.1.size, h.1]; exact Nat.le_refl _)]
set_option maxRecDepth 100000 in
set_option maxHeartbeats 1000000 in
/-- The block that an append may change: the list's, or (there is none) any other of nodes. -/
theorem gA_spec {B n tb : Nat} {w w3 : World} {ad : Option Addr} {cap : Nat} {xs : List Value} {cs : Array Value} (hown : w.ownsRow B 74 5 (.slice ad n cap) n xs) (hE : Ext w w3) (hb : Bx 74 w3 tb cs) (htb : w.heap.size ≤ tb) :
    ∃ gA, (∃ cs, Bx 74 w3 gA cs) ∧ (∀ wa wb : World, wa.grownBy wb (Value.slice ad n cap).ownBlock → Chg gA wa wb) ∧ (gA ∈ blks (.slice ad n cap) ∨ w.heap.size ≤ gA) := by
  rcases hown.2 with ⟨h1, h2⟩ | ⟨g, cap', cur, h1, h2, h3, h4⟩
  · cases h1
    exact ⟨tb, ⟨cs, hb⟩, fun wa wb h => Ext.chg tb h, .inr htb⟩
  · cases h1
    exact ⟨g, ⟨cur, hE.blk h3⟩, fun wa wb h => h, .inl (by simp [blks, Value.ownBlock])⟩
set_option maxRecDepth 100000 in
set_option maxHeartbeats 1000000 in
theorem blks_mem {hv : Value} {g : Nat} (h : hv.ownBlock = some g) : g ∈ blks hv := by simp [blks, h]
set_option maxRecDepth 100000 in
set_option maxHeartbeats 1000000 in
theorem up_half (i : Nat) : ((i : Int) - 1).tdiv 2 = (((i - 1) / 2 : Nat) : Int) := by
  rcases i with _ | j
  · decide
  · rw [show (((j + 1 : Nat) : Int) - 1) = (j : Int) by omega]
    rfl

/-- What holds at the label. -/
def PushH (B k p n i g cap' : Nat) (best : Bool) (hv : Value) (d : Array Nd) (x : Nd) (w w' : World) (rest us : List Value) (d' : Array Nd) : Prop :=
  i < n + 1 ∧ Hid (Nds B k g rest w' us d' ∧ UpInv best d' i ∧ d'.toList.Perm (d.push x).toList ∧ d'.size = n + 1 ∧ ChgS (p :: blks hv) w w' ∧ Bx 123 w' p #[.int .i64 (ordV best), .slice (some ⟨g, 0, none⟩) (n + 1) cap'] ∧ n + 1 ≤ cap' ∧ cap' ≤ 9223372036854775807 ∧ us.length * 5 + rest.length = cap' * 5 ∧ B ≤ g ∧ (hv.ownBlock = some g ∨ w.heap.size ≤ g))
def PushJ (B k p n : Nat) (best : Bool) (hv : Value) (d : Array Nd) (x : Nd) (w : World) (a' : Act) (w' : World) : Prop :=
  ∃ (i g cap' : Nat) (rest us : List Value) (d' : Array Nd), (∃ (u1 u2 u3 u5 u6 u7 u8 u9 u10 u11 u12 u13 u14 u15 u16 u17 u18 u19 u20 u21 u22 u23 u24 u25 u26 u27 u28 u29 u30 u31 u32 u33 u34 u35 u36 u37 u38 u39 u40 u41 u42 u43 u44 u45 u46 u47 u48 u49 u50 u51 u52 u53 u54 u55 u56 u57 u58 u59 u60 u61 u62 u63 u64 u65 u66 u67 u68 u69 u70 u71 u72 u73 u74 u75 : Value), a' = { tmps := #[.pointer (some ⟨p, 0, none⟩), u1, u2, u3, .int .i64 (i : Int), u5, u6, u7, u8, u9, u10, u11, u12, u13, u14, u15, u16, u17, u18, u19, u20, u21, u22, u23, u24, u25, u26, u27, u28, u29, u30, u31, u32, u33, u34, u35, u36, u37, u38, u39, u40, u41, u42, u43, u44, u45, u46, u47, u48, u49, u50, u51, u52, u53, u54, u55, u56, u57, u58, u59, u60, u61, u62, u63, u64, u65, u66, u67, u68, u69, u70, u71, u72, u73, u74, u75], defers := [] }) ∧ PushH B k p n i g cap' best hv d x w w' rest us d'
set_option maxRecDepth 100000 in
set_option maxHeartbeats 1000000 in
theorem PushJ.mk {B k p n i g cap' : Nat} {best : Bool} {hv : Value} {d : Array Nd} {x : Nd} {w w' : World} {rest us : List Value} {d' : Array Nd} (u1 u2 u3 u5 u6 u7 u8 u9 u10 u11 u12 u13 u14 u15 u16 u17 u18 u19 u20 u21 u22 u23 u24 u25 u26 u27 u28 u29 u30 u31 u32 u33 u34 u35 u36 u37 u38 u39 u40 u41 u42 u43 u44 u45 u46 u47 u48 u49 u50 u51 u52 u53 u54 u55 u56 u57 u58 u59 u60 u61 u62 u63 u64 u65 u66 u67 u68 u69 u70 u71 u72 u73 u74 u75 : Value) (h : PushH B k p n i g cap' best hv d x w w' rest us d') :
    PushJ B k p n best hv d x w { tmps := #[.pointer (some ⟨p, 0, none⟩), u1, u2, u3, .int .i64 (i : Int), u5, u6, u7, u8, u9, u10, u11, u12, u13, u14, u15, u16, u17, u18, u19, u20, u21, u22, u23, u24, u25, u26, u27, u28, u29, u30, u31, u32, u33, u34, u35, u36, u37, u38, u39, u40, u41, u42, u43, u44, u45, u46, u47, u48, u49, u50, u51, u52, u53, u54, u55, u56, u57, u58, u59, u60, u61, u62, u63, u64, u65, u66, u67, u68, u69, u70, u71, u72, u73, u74, u75], defers := [] } w' := ⟨i, g, cap', rest, us, d', ⟨u1, u2, u3, u5, u6, u7, u8, u9, u10, u11, u12, u13, u14, u15, u16, u17, u18, u19, u20, u21, u22, u23, u24, u25, u26, u27, u28, u29, u30, u31, u32, u33, u34, u35, u36, u37, u38, u39, u40, u41, u42, u43, u44, u45, u46, u47, u48, u49, u50, u51, u52, u53, u54, u55, u56, u57, u58, u59, u60, u61, u62, u63, u64, u65, u66, u67, u68, u69, u70, u71, u72, u73, u74, u75, rfl⟩, h⟩

set_option maxRecDepth 100000 in
set_option maxHeartbeats 8000000 in
theorem push_calls (B k p : Nat) (best : Bool) (hv va : Value) (d : Array Nd) (x : Nd) (w : World) (hp : Bx 123 w p #[.int .i64 (ordV best), hv]) (hq : QHeap B k w hv d) (hh : HpFrom best d 0) (hx : NdR k w va x)
    (hk : k ≤ LIM) (hk2 : k ≤ 34359738368) (hn : (d.size + 1) * 72 ≤ 140737488355328) (hB : B ≤ w.heap.size) :
    Calls Try.prog 58 #[.pointer (some ⟨p, 0, none⟩), va] w fun e w' => e = .returned (.tuple #[]) ∧ ChgS (p :: blks hv) w w' ∧ ∃ hv' d', Bx 123 w' p #[.int .i64 (ordV best), hv'] ∧ QHeap B k w' hv' d' ∧ HpFrom best d' 0 ∧ d'.toList.Perm (d.push x).toList ∧ d'.size = d.size + 1 ∧ (∀ g, hv'.ownBlock = some g → hv.ownBlock = some g ∨ w.heap.size ≤ g) := by
  obtain ⟨vs, hvl, h5, hown, hnd⟩ := hq
  obtain ⟨b, a1, n1, c1, a2, n2, c2, rfl, rx⟩ := hx
  obtain ⟨ad, cap, rfl⟩ := ownsRow_len hown
  obtain ⟨n, hn0⟩ : ∃ n, n = d.size := ⟨_, rfl⟩
  rw [← hn0] at hp hown hn ⊢
  have HN := Lib.hid hn0
  have HX := Lib.hid rx
  have HP := Lib.hid hp
  have HOwn := Lib.hid hown
  have HNd := Lib.hid hnd
  have HHh := Lib.hid hh
  have H5 := Lib.hid h5
  have HVl := Lib.hid hvl
  have hpl := blk_lt hp
  clear hn0 rx hp hown hnd hh h5 hvl
  go_enter Try.func58, Try.ntmps58
  go_wp2
  refine wp_scope_label 0 (PushJ B k p n best (.slice ad n cap) d x w)
    (fun a' _ => (intOf (a'.tmps.getD 4 undef)).toNat) rfl ?_ ?_
  · rintro a' wr ⟨i, g, cap', rest, us, d', ⟨u1, u2, u3, u5, u6, u7, u8, u9, u10, u11, u12, u13, u14, u15, u16, u17, u18, u19, u20, u21, u22, u23, u24, u25, u26, u27, u28, u29, u30, u31, u32, u33, u34, u35, u36, u37, u38, u39, u40, u41, u42, u43, u44, u45, u46, u47, u48, u49, u50, u51, u52, u53, u54, u55, u56, u57, u58, u59, u60, u61, u62, u63, u64, u65, u66, u67, u68, u69, u70, u71, u72, u73, u74, u75, rfl⟩, hi, hH⟩
    have hup := up_half i
    obtain ⟨m, hm⟩ : ∃ m, m = (i - 1) / 2 := ⟨_, rfl⟩
    rw [← hm] at hup
    have P2 := hH.out.2.2.2.2.2.1
    by_cases h0 : i = 0
    · have hm0 : m = 0 := by omega
      have HU := Lib.hid hH.out.2.1
      have HI := Lib.hid h0
      clear hm hup h0
      subst hm0
      go_wp2_with fail
      refine wp_region_puts [] [PP.val (.int .i64 (i : Int)), PP.val (.bool false), PP.val (.bool false), PP.any, PP.any, PP.any, PP.any, PP.any, PP.any, PP.any, PP.any, PP.any, PP.any, PP.any, PP.any, PP.any, PP.any, PP.any, PP.any, PP.val (.bool false)] [] [0, 1, 2, 3, 4, 5, 6, 7, 8, 9, 10, 11, 12, 13, 14, 15, 16, 17, 18, 19]
        (by kernel_rfl) (by kernel_rfl) (fun f => (by simp only [fillR, fillL, List.setIfInBounds_toArray, List.set_cons_succ, List.set_cons_zero, Nat.reduceAdd]; rfl)) ?_ ?_ ?_ ?_ ?_
      · intro x hx; cases hx
      · intro x hx; cases hx
      · intro x hx; cases hx
      · refine ⟨?o0, ?o1, ?o2, ?o3, ?o4, ?o5, ?o6, ?o7, ?o8, ?o9, ?o10, ?o11, ?o12, ?o13, ?o14, ?o15, ?o16, ?o17, ?o18, ?o19, trivial⟩
        case o0 =>
          intro f w2 hG hp hl
          have hE : Ext wr w2 := hG
          have hS := hE.size
          simp only [OpGoal]
          go_simp
          exact ⟨_, rfl, Ext.refl _, rfl⟩
        case o1 =>
          intro f w2 hG hp hl
          have hE : Ext wr w2 := hG
          have hS := hE.size
          have q29 : f 0 = .int .i64 (i : Int) := tellV hp 0 0 rfl rfl (fun h => by cases h)
          simp only [OpGoal]
          go_simp
          exact ⟨_, rfl, Ext.refl _, congrArg Value.bool (decide_eq_false (by have := HI.out; omega))⟩
        case o2 =>
          intro f w2 hG hp hl
          have hE : Ext wr w2 := hG
          have hS := hE.size
          have q30 : f 1 = .bool false := tellV hp 0 1 rfl rfl (fun h => by cases h)
          simp only [OpGoal]
          go_simp
          exact ⟨_, rfl, Ext.refl _, rfl⟩
        case o3 =>
          intro f w2 hG hp hl
          have hE : Ext wr w2 := hG
          have hS := hE.size
          have qg : f 2 = .bool false := tellV hp 0 2 rfl rfl (fun h => by cases h)
          exact og_skip rfl qg (by decide) trivial
        case o4 =>
          intro f w2 hG hp hl
          have hE : Ext wr w2 := hG
          have hS := hE.size
          have qg : f 2 = .bool false := tellV hp 0 2 rfl rfl (fun h => by cases h)
          exact og_skip rfl qg (by decide) trivial
        case o5 =>
          intro f w2 hG hp hl
          have hE : Ext wr w2 := hG
          have hS := hE.size
          have qg : f 2 = .bool false := tellV hp 1 2 rfl rfl (fun h => by cases h)
          exact og_skip rfl qg (by decide) trivial
        case o6 =>
          intro f w2 hG hp hl
          have hE : Ext wr w2 := hG
          have hS := hE.size
          have qg : f 2 = .bool false := tellV hp 1 2 rfl rfl (fun h => by cases h)
          exact og_skip rfl qg (by decide) trivial
        case o7 =>
          intro f w2 hG hp hl
          have hE : Ext wr w2 := hG
          have hS := hE.size
          have qg : f 2 = .bool false := tellV hp 1 2 rfl rfl (fun h => by cases h)
          exact og_skip rfl qg (by decide) trivial
        case o8 =>
          intro f w2 hG hp hl
          have hE : Ext wr w2 := hG
          have hS := hE.size
          have qg : f 2 = .bool false := tellV hp 0 2 rfl rfl (fun h => by cases h)
          exact og_skip rfl qg (by decide) trivial
        case o9 =>
          intro f w2 hG hp hl
          have hE : Ext wr w2 := hG
          have hS := hE.size
          have qg : f 2 = .bool false := tellV hp 2 2 rfl rfl (fun h => by cases h)
          exact og_skip rfl qg (by decide) trivial
        case o10 =>
          intro f w2 hG hp hl
          have hE : Ext wr w2 := hG
          have hS := hE.size
          have qg : f 2 = .bool false := tellV hp 1 2 rfl rfl (fun h => by cases h)
          exact og_skip rfl qg (by decide) trivial
        case o11 =>
          intro f w2 hG hp hl
          have hE : Ext wr w2 := hG
          have hS := hE.size
          have qg : f 2 = .bool false := tellV hp 0 2 rfl rfl (fun h => by cases h)
          exact og_skip rfl qg (by decide) trivial
        case o12 =>
          intro f w2 hG hp hl
          have hE : Ext wr w2 := hG
          have hS := hE.size
          have qg : f 2 = .bool false := tellV hp 1 2 rfl rfl (fun h => by cases h)
          exact og_skip rfl qg (by decide) trivial
        case o13 =>
          intro f w2 hG hp hl
          have hE : Ext wr w2 := hG
          have hS := hE.size
          have qg : f 2 = .bool false := tellV hp 1 2 rfl rfl (fun h => by cases h)
          exact og_skip rfl qg (by decide) trivial
        case o14 =>
          intro f w2 hG hp hl
          have hE : Ext wr w2 := hG
          have hS := hE.size
          have qg : f 2 = .bool false := tellV hp 1 2 rfl rfl (fun h => by cases h)
          exact og_skip rfl qg (by decide) trivial
        case o15 =>
          intro f w2 hG hp hl
          have hE : Ext wr w2 := hG
          have hS := hE.size
          have qg : f 2 = .bool false := tellV hp 0 2 rfl rfl (fun h => by cases h)
          exact og_skip rfl qg (by decide) trivial
        case o16 =>
          intro f w2 hG hp hl
          have hE : Ext wr w2 := hG
          have hS := hE.size
          have qg : f 2 = .bool false := tellV hp 2 2 rfl rfl (fun h => by cases h)
          exact og_skip rfl qg (by decide) trivial
        case o17 =>
          intro f w2 hG hp hl
          have hE : Ext wr w2 := hG
          have hS := hE.size
          have qg : f 2 = .bool false := tellV hp 1 2 rfl rfl (fun h => by cases h)
          exact og_skip rfl qg (by decide) trivial
        case o18 =>
          intro f w2 hG hp hl
          have hE : Ext wr w2 := hG
          have hS := hE.size
          have qg : f 2 = .bool false := tellV hp 3 2 rfl rfl (fun h => by cases h)
          exact og_skip rfl qg (by decide) trivial
        case o19 =>
          intro f w2 hG hp hl
          have hE : Ext wr w2 := hG
          have hS := hE.size
          have q31 : f 2 = .bool false := tellV hp 0 2 rfl rfl (fun h => by cases h)
          simp only [OpGoal]
          go_simp
          exact ⟨_, rfl, Ext.refl _, rfl⟩
      · intro f w2 hG hp
        have hE : Ext wr w2 := ChgS.nil hG
        have q48 : f 19 = .bool false := endV hp 19 (by decide) rfl (fun h => by cases h)
        try simp only [q48]
        clear hp
        go_wp2
        simp only [Exit.jump]
        go_end0
        have HF := Lib.hid (UpInv.stop hH.out.2.1 (.inl HI.out))
        obtain ⟨q1, q2, q3, q4, q5, q6, q7, q8, q9, q10, q11⟩ := hH.out
        refine ⟨rfl, q5.trans (hE.chgS _), _, d', q6.ext hE, hold_qheap (q1.ext hE) q10 q4 q7 q8 q9, HF.out, q3, q4, fun g2 hg2 => ?_⟩
        simp only [Value.ownBlock, Option.some.injEq] at hg2
        subst hg2
        exact q11
    · have hi0' : 0 < i := by omega
      have hi0 : (0 : Int) < (i : Int) := by omega
      have hmi : m < i := by omega
      have hmn : m < n + 1 := by omega
      have hin' : (i : Int) < (n : Int) + 1 := by omega
      have hmn' : (m : Int) < (n : Int) + 1 := by omega
      have hmM := Lib.hid hm
      have N2 := hH.out.1
      have hdn := hH.out.2.2.2.1
      obtain ⟨b1, a3, n3, c3, e1, m1, f1, hv1, hcell1, hnd1⟩ := N2.at (i := i) (by omega)
      obtain ⟨b2, a4, n4, c4, e2, m2, f2, hv2, hcell2, hnd2⟩ := N2.at (i := m) (by omega)
      have HC1 := Lib.hid hcell1
      have HC2 := Lib.hid hcell2
      have HN1 := Lib.hid hnd1
      have HN2 := Lib.hid hnd2
      have HV1 := Lib.hid hv1
      have HV2 := Lib.hid hv2
      have HDN := Lib.hid hdn
      obtain ⟨r, hr⟩ : ∃ r, r = decide (Lt best d'[i]! d'[m]!) := ⟨_, rfl⟩
      have Hr := Lib.hid hr.symm
      obtain ⟨x1, hx1⟩ : ∃ x, x = d'[i]! := ⟨_, rfl⟩
      obtain ⟨x2, hx2⟩ : ∃ x, x = d'[m]! := ⟨_, rfl⟩
      rw [← hx1] at HC1 HN1 Hr HV1
      rw [← hx2] at HC2 HN2 Hr HV2
      have HX1 := Lib.hid hx1
      have HX2 := Lib.hid hx2
      clear hr hx1 hx2 hcell1 hcell2 hnd1 hnd2 hv1 hv2 N2 hdn hm h0
      go_wp2_with fail
      refine wp_region_puts [] [PP.val (.int .i64 (i : Int)), PP.val (.bool true), PP.val (.bool true), PP.val (.pointer (some ⟨p, 0, none⟩)), PP.val (.pointer (some ⟨p, 0, none⟩)), PP.val (.pointer (some ⟨p, 0, none⟩)), PP.val (.pointer (some ⟨p, 1, none⟩)), PP.val (.slice (some ⟨g, 0, none⟩) (n + 1) cap'), PP.val (.int .i64 (i : Int)), PP.val (.pointer (some ⟨g, i * 5, none⟩)), PP.val (.agg #[.int .i64 x1.id, .int .i64 x1.depth, .bool b1, .slice a3 n3 c3, .slice e1 m1 f1]), PP.val (.pointer (some ⟨p, 0, none⟩)), PP.val (.pointer (some ⟨p, 0, none⟩)), PP.val (.pointer (some ⟨p, 1, none⟩)), PP.val (.slice (some ⟨g, 0, none⟩) (n + 1) cap'), PP.val (.int .i64 (m : Int)), PP.val (.pointer (some ⟨g, m * 5, none⟩)), PP.val (.agg #[.int .i64 x2.id, .int .i64 x2.depth, .bool b2, .slice a4 n4 c4, .slice e2 m2 f2]), PP.val (.bool r), PP.val (.bool r)] [] [0, 1, 2, 3, 4, 5, 6, 7, 8, 9, 10, 11, 12, 13, 14, 15, 16, 17, 18, 19]
        (by kernel_rfl) (by kernel_rfl) (fun f => (by simp only [fillR, fillL, List.setIfInBounds_toArray, List.set_cons_succ, List.set_cons_zero, Nat.reduceAdd]; rfl)) ?_ ?_ ?_ ?_ ?_
      · intro x hx; cases hx
      · intro x hx; cases hx
      · intro x hx; cases hx
      · refine ⟨?o0, ?o1, ?o2, ?o3, ?o4, ?o5, ?o6, ?o7, ?o8, ?o9, ?o10, ?o11, ?o12, ?o13, ?o14, ?o15, ?o16, ?o17, ?o18, ?o19, trivial⟩
        case o0 =>
          intro f w2 hG hp hl
          have hE : Ext wr w2 := hG
          have hS := hE.size
          simp only [OpGoal]
          go_simp
          exact ⟨_, rfl, Ext.refl _, rfl⟩
        case o1 =>
          intro f w2 hG hp hl
          have hE : Ext wr w2 := hG
          have hS := hE.size
          have q29 : f 0 = .int .i64 (i : Int) := tellV hp 0 0 rfl rfl (fun h => by cases h)
          simp only [OpGoal]
          go_simp
          exact ⟨_, rfl, Ext.refl _, rfl⟩
        case o2 =>
          intro f w2 hG hp hl
          have hE : Ext wr w2 := hG
          have hS := hE.size
          have q30 : f 1 = .bool true := tellV hp 0 1 rfl rfl (fun h => by cases h)
          simp only [OpGoal]
          go_simp
          exact ⟨_, rfl, Ext.refl _, rfl⟩
        case o3 =>
          intro f w2 hG hp hl
          have hE : Ext wr w2 := hG
          have hS := hE.size
          have qg : f 2 = .bool true := tellV hp 0 2 rfl rfl (fun h => by cases h)
          change OpGoal _ _ _ f w2 Ext _
          refine og_guard (j := 2) (want := true) rfl qg ?_
          simp only [OpGoal]
          go_simp
          exact ⟨_, rfl, Ext.refl _, rfl⟩
        case o4 =>
          intro f w2 hG hp hl
          have hE : Ext wr w2 := hG
          have hS := hE.size
          have qg : f 2 = .bool true := tellV hp 0 2 rfl rfl (fun h => by cases h)
          change OpGoal _ _ _ f w2 Ext _
          refine og_guard (j := 2) (want := true) rfl qg ?_
          simp only [OpGoal]
          go_simp
          exact ⟨_, rfl, Ext.refl _, rfl⟩
        case o5 =>
          intro f w2 hG hp hl
          have hE : Ext wr w2 := hG
          have hS := hE.size
          have q33 : f 4 = .pointer (some ⟨p, 0, none⟩) := tellV hp 0 4 rfl rfl (fun h => by cases h)
          have qg : f 2 = .bool true := tellV hp 1 2 rfl rfl (fun h => by cases h)
          change OpGoal _ _ _ f w2 Ext _
          refine og_guard (j := 2) (want := true) rfl qg ?_
          simp only [OpGoal]
          go_simp
          exact ⟨_, rfl, Ext.refl _, rfl⟩
        case o6 =>
          intro f w2 hG hp hl
          have hE : Ext wr w2 := hG
          have hS := hE.size
          have q34 : f 5 = .pointer (some ⟨p, 0, none⟩) := tellV hp 0 5 rfl rfl (fun h => by cases h)
          have qg : f 2 = .bool true := tellV hp 1 2 rfl rfl (fun h => by cases h)
          change OpGoal _ _ _ f w2 Ext _
          refine og_guard (j := 2) (want := true) rfl qg ?_
          simp only [OpGoal]
          go_simp
          exact ⟨_, rfl, Ext.refl _, rfl⟩
        case o7 =>
          intro f w2 hG hp hl
          have hE : Ext wr w2 := hG
          have hS := hE.size
          have q35 : f 6 = .pointer (some ⟨p, 1, none⟩) := tellV hp 0 6 rfl rfl (fun h => by cases h)
          have qg : f 2 = .bool true := tellV hp 1 2 rfl rfl (fun h => by cases h)
          change OpGoal _ _ _ f w2 Ext _
          refine og_guard (j := 2) (want := true) rfl qg ?_
          have hcell := (P2.ext hE).cell 1
          simp only [OpGoal]
          go_simp
          exact ⟨_, rfl, Ext.refl _, rfl⟩
        case o8 =>
          intro f w2 hG hp hl
          have hE : Ext wr w2 := hG
          have hS := hE.size
          have qg : f 2 = .bool true := tellV hp 0 2 rfl rfl (fun h => by cases h)
          change OpGoal _ _ _ f w2 Ext _
          refine og_guard (j := 2) (want := true) rfl qg ?_
          simp only [OpGoal]
          go_simp
          exact ⟨_, rfl, Ext.refl _, rfl⟩
        case o9 =>
          intro f w2 hG hp hl
          have hE : Ext wr w2 := hG
          have hS := hE.size
          have q36 : f 7 = .slice (some ⟨g, 0, none⟩) (n + 1) cap' := tellV hp 0 7 rfl rfl (fun h => by cases h)
          have q37 : f 8 = .int .i64 (i : Int) := tellV hp 1 8 rfl rfl (fun h => by cases h)
          have qg : f 2 = .bool true := tellV hp 2 2 rfl rfl (fun h => by cases h)
          change OpGoal _ _ _ f w2 Ext _
          refine og_guard (j := 2) (want := true) rfl qg ?_
          simp only [OpGoal]
          go_simp
          exact ⟨_, rfl, Ext.refl _, rfl⟩
        case o10 =>
          intro f w2 hG hp hl
          have hE : Ext wr w2 := hG
          have hS := hE.size
          have q38 : f 9 = .pointer (some ⟨g, i * 5, none⟩) := tellV hp 0 9 rfl rfl (fun h => by cases h)
          have qg : f 2 = .bool true := tellV hp 1 2 rfl rfl (fun h => by cases h)
          change OpGoal _ _ _ f w2 Ext _
          refine og_guard (j := 2) (want := true) rfl qg ?_
          change OpGoal _ _ _ f w2 Ext _
          exact og_loadAt (P := Try.prog) _ _ g (i * 5) _ _ rfl rfl q38 (fun j v h => HC1.out _ hE j v h) Try.underlying74 rfl (by kernel_rfl) rfl
        case o11 =>
          intro f w2 hG hp hl
          have hE : Ext wr w2 := hG
          have hS := hE.size
          have qg : f 2 = .bool true := tellV hp 0 2 rfl rfl (fun h => by cases h)
          change OpGoal _ _ _ f w2 Ext _
          refine og_guard (j := 2) (want := true) rfl qg ?_
          simp only [OpGoal]
          go_simp
          exact ⟨_, rfl, Ext.refl _, rfl⟩
        case o12 =>
          intro f w2 hG hp hl
          have hE : Ext wr w2 := hG
          have hS := hE.size
          have q40 : f 11 = .pointer (some ⟨p, 0, none⟩) := tellV hp 0 11 rfl rfl (fun h => by cases h)
          have qg : f 2 = .bool true := tellV hp 1 2 rfl rfl (fun h => by cases h)
          change OpGoal _ _ _ f w2 Ext _
          refine og_guard (j := 2) (want := true) rfl qg ?_
          simp only [OpGoal]
          go_simp
          exact ⟨_, rfl, Ext.refl _, rfl⟩
        case o13 =>
          intro f w2 hG hp hl
          have hE : Ext wr w2 := hG
          have hS := hE.size
          have q41 : f 12 = .pointer (some ⟨p, 0, none⟩) := tellV hp 0 12 rfl rfl (fun h => by cases h)
          have qg : f 2 = .bool true := tellV hp 1 2 rfl rfl (fun h => by cases h)
          change OpGoal _ _ _ f w2 Ext _
          refine og_guard (j := 2) (want := true) rfl qg ?_
          simp only [OpGoal]
          go_simp
          exact ⟨_, rfl, Ext.refl _, rfl⟩
        case o14 =>
          intro f w2 hG hp hl
          have hE : Ext wr w2 := hG
          have hS := hE.size
          have q42 : f 13 = .pointer (some ⟨p, 1, none⟩) := tellV hp 0 13 rfl rfl (fun h => by cases h)
          have qg : f 2 = .bool true := tellV hp 1 2 rfl rfl (fun h => by cases h)
          change OpGoal _ _ _ f w2 Ext _
          refine og_guard (j := 2) (want := true) rfl qg ?_
          have hcell := (P2.ext hE).cell 1
          simp only [OpGoal]
          go_simp
          exact ⟨_, rfl, Ext.refl _, rfl⟩
        case o15 =>
          intro f w2 hG hp hl
          have hE : Ext wr w2 := hG
          have hS := hE.size
          have qg : f 2 = .bool true := tellV hp 0 2 rfl rfl (fun h => by cases h)
          change OpGoal _ _ _ f w2 Ext _
          refine og_guard (j := 2) (want := true) rfl qg ?_
          simp only [OpGoal]
          go_simp
          exact ⟨_, rfl, Ext.refl _, rfl⟩
        case o16 =>
          intro f w2 hG hp hl
          have hE : Ext wr w2 := hG
          have hS := hE.size
          have q43 : f 14 = .slice (some ⟨g, 0, none⟩) (n + 1) cap' := tellV hp 0 14 rfl rfl (fun h => by cases h)
          have q44 : f 15 = .int .i64 (m : Int) := tellV hp 1 15 rfl rfl (fun h => by cases h)
          have qg : f 2 = .bool true := tellV hp 2 2 rfl rfl (fun h => by cases h)
          change OpGoal _ _ _ f w2 Ext _
          refine og_guard (j := 2) (want := true) rfl qg ?_
          simp only [OpGoal]
          go_simp
          exact ⟨_, rfl, Ext.refl _, rfl⟩
        case o17 =>
          intro f w2 hG hp hl
          have hE : Ext wr w2 := hG
          have hS := hE.size
          have q45 : f 16 = .pointer (some ⟨g, m * 5, none⟩) := tellV hp 0 16 rfl rfl (fun h => by cases h)
          have qg : f 2 = .bool true := tellV hp 1 2 rfl rfl (fun h => by cases h)
          change OpGoal _ _ _ f w2 Ext _
          refine og_guard (j := 2) (want := true) rfl qg ?_
          change OpGoal _ _ _ f w2 Ext _
          exact og_loadAt (P := Try.prog) _ _ g (m * 5) _ _ rfl rfl q45 (fun j v h => HC2.out _ hE j v h) Try.underlying74 rfl (by kernel_rfl) rfl
        case o18 =>
          intro f w2 hG hp hl
          have hE : Ext wr w2 := hG
          have hS := hE.size
          have q32 : f 3 = .pointer (some ⟨p, 0, none⟩) := tellV hp 0 3 rfl rfl (fun h => by cases h)
          have q39 : f 10 = .agg #[.int .i64 x1.id, .int .i64 x1.depth, .bool b1, .slice a3 n3 c3, .slice e1 m1 f1] := tellV hp 1 10 rfl rfl (fun h => by cases h)
          have q46 : f 17 = .agg #[.int .i64 x2.id, .int .i64 x2.depth, .bool b2, .slice a4 n4 c4, .slice e2 m2 f2] := tellV hp 2 17 rfl rfl (fun h => by cases h)
          have qg : f 2 = .bool true := tellV hp 3 2 rfl rfl (fun h => by cases h)
          change OpGoal _ _ _ f w2 Ext _
          refine og_guard (j := 2) (want := true) rfl qg ?_
          change OpGoal _ _ _ f w2 Ext _
          refine og_call (P := Try.prog) _ _ _ #[f 3, f 10, f 17] Try.func98 (by kernel_rfl) (by kernel_rfl) rfl rfl (by kernel_rfl) ?_
          rw [q32, q39, q46]
          refine (ahead_calls p best _ _ _ x1 x2 k _ (P2.ext hE) ((HN1.out.r hk).ext hE) ((HN2.out.r hk).ext hE) hk2).mono ?_
          rw [Hr.out]
          rintro e w' ⟨rfl, h2⟩
          exact ⟨_, rfl, h2, rfl⟩
        case o19 =>
          intro f w2 hG hp hl
          have hE : Ext wr w2 := hG
          have hS := hE.size
          have q31 : f 2 = .bool true := tellV hp 0 2 rfl rfl (fun h => by cases h)
          have q47 : f 18 = .bool r := tellV hp 1 18 rfl rfl (fun h => by cases h)
          simp only [OpGoal]
          go_simp
          exact ⟨_, rfl, Ext.refl _, rfl⟩
      · intro f w2 hG hp
        have hE : Ext wr w2 := ChgS.nil hG
        have q48 : f 19 = .bool r := endV hp 19 (by decide) rfl (fun h => by cases h)
        try simp only [q48]
        clear hp
        cases r with
        | false =>
          have HLt := Lib.hid (show ¬ Lt best d'[i]! d'[m]! by rw [← HX1.out, ← HX2.out]; exact of_decide_eq_false Hr.out)
          go_wp2
          simp only [Exit.jump]
          go_end0
          have HF := Lib.hid (UpInv.stop hH.out.2.1 (.inr (by rw [← hmM.out]; exact HLt.out)))
          obtain ⟨q1, q2, q3, q4, q5, q6, q7, q8, q9, q10, q11⟩ := hH.out
          refine ⟨rfl, q5.trans (hE.chgS _), _, d', q6.ext hE, hold_qheap (q1.ext hE) q10 q4 q7 q8 q9, HF.out, q3, q4, fun g2 hg2 => ?_⟩
          simp only [Value.ownBlock, Option.some.injEq] at hg2
          subst hg2
          exact q11
        | true =>
          have HLt := Lib.hid (show Lt best d'[i]! d'[m]! by rw [← HX1.out, ← HX2.out]; exact of_decide_eq_true Hr.out)
          have P3 := P2.ext hE
          have HNds := Lib.hid (hH.out.1.ext hE)
          have HC3 := Lib.hid (show ∀ wz, Ext w2 wz → _ from fun wz hz => HC1.out wz (hE.trans hz))
          have HC4 := Lib.hid (show ∀ wz, Ext w2 wz → _ from fun wz hz => HC2.out wz (hE.trans hz))
          have him : i ≠ m := by omega
          have hE0 := hE
          clear hE
          go_wp2_with fail
          refine wp_region_swp g (n + 1) i m 25 27 rest us (.agg #[.int .i64 x1.id, .int .i64 x1.depth, .bool b1, .slice a3 n3 c3, .slice e1 m1 f1]) (.agg #[.int .i64 x2.id, .int .i64 x2.depth, .bool b2, .slice a4 n4 c4, .slice e2 m2 f2]) [PP.val (.pointer (some ⟨p, 0, none⟩)), PP.val (.pointer (some ⟨p, 0, none⟩)), PP.val (.pointer (some ⟨p, 1, none⟩)), PP.val (.slice (some ⟨g, 0, none⟩) (n + 1) cap'), PP.val (.int .i64 (i : Int)), PP.val (.pointer (some ⟨p, 0, none⟩)), PP.val (.pointer (some ⟨p, 0, none⟩)), PP.val (.pointer (some ⟨p, 1, none⟩)), PP.val (.slice (some ⟨g, 0, none⟩) (n + 1) cap'), PP.val (.int .i64 (m : Int)), PP.val (.pointer (some ⟨p, 0, none⟩)), PP.val (.pointer (some ⟨p, 0, none⟩)), PP.val (.pointer (some ⟨p, 1, none⟩)), PP.val (.slice (some ⟨g, 0, none⟩) (n + 1) cap'), PP.val (.int .i64 (m : Int)), PP.val (.pointer (some ⟨g, m * 5, none⟩)), PP.val (.agg #[.int .i64 x2.id, .int .i64 x2.depth, .bool b2, .slice a4 n4 c4, .slice e2 m2 f2]), PP.val (.pointer (some ⟨p, 0, none⟩)), PP.val (.pointer (some ⟨p, 0, none⟩)), PP.val (.pointer (some ⟨p, 1, none⟩)), PP.val (.slice (some ⟨g, 0, none⟩) (n + 1) cap'), PP.val (.int .i64 (i : Int)), PP.val (.pointer (some ⟨g, i * 5, none⟩)), PP.val (.agg #[.int .i64 x1.id, .int .i64 x1.depth, .bool b1, .slice a3 n3 c3, .slice e1 m1 f1]), PP.val (.pointer (some ⟨g, i * 5, none⟩)), PP.any, PP.val (.pointer (some ⟨g, m * 5, none⟩)), PP.any] [] [25, 24, 23, 22, 21, 20, 19, 18, 17, 16, 15, 14, 13, 12, 11, 10, 8, 7, 6, 5, 4, 3, 2, 1, 0] (by kernel_rfl) (by kernel_rfl) (fun f => (by simp only [fillR, fillL, List.setIfInBounds_toArray, List.set_cons_succ, List.set_cons_zero, Nat.reduceAdd]; rfl)) him (by decide) (HNds.out.1.trans HDN.out) HNds.out.2.1 hi hmn (by intro p hp; simp only [List.mem_cons, List.not_mem_nil, or_false] at hp; rcases hp with rfl | rfl | rfl | rfl | rfl | rfl | rfl | rfl | rfl | rfl | rfl | rfl | rfl | rfl | rfl | rfl | rfl | rfl | rfl | rfl | rfl | rfl | rfl | rfl | rfl | rfl | rfl | rfl <;> rfl) ?_ ?_ (by decide) (by decide)
          · refine ⟨?o0, ?o1, ?o2, ?o3, ?o4, ?o5, ?o6, ?o7, ?o8, ?o9, ?o10, ?o11, ?o12, ?o13, ?o14, ?o15, ?o16, ?o17, ?o18, ?o19, ?o20, ?o21, ?o22, ?o23, ?o24, ?o25, ?o26, ?o27, trivial⟩
            case o0 =>
              intro f w4 hG hp hl
              have hE : Ext w2 w4 := hG
              have hS := hE.size
              simp only [OpGoal]
              go_simp
              exact ⟨_, rfl, Ext.refl _, rfl⟩
            case o1 =>
              intro f w4 hG hp hl
              have hE : Ext w2 w4 := hG
              have hS := hE.size
              have q49 : f 0 = .pointer (some ⟨p, 0, none⟩) := tellM hp 0 0 rfl rfl
              simp only [OpGoal]
              go_simp
              exact ⟨_, rfl, Ext.refl _, rfl⟩
            case o2 =>
              intro f w4 hG hp hl
              have hE : Ext w2 w4 := hG
              have hS := hE.size
              have q50 : f 1 = .pointer (some ⟨p, 0, none⟩) := tellM hp 0 1 rfl rfl
              simp only [OpGoal]
              go_simp
              exact ⟨_, rfl, Ext.refl _, rfl⟩
            case o3 =>
              intro f w4 hG hp hl
              have hE : Ext w2 w4 := hG
              have hS := hE.size
              have q51 : f 2 = .pointer (some ⟨p, 1, none⟩) := tellM hp 0 2 rfl rfl
              have hcell := (P3.ext hE).cell 1
              simp only [OpGoal]
              go_simp
              exact ⟨_, rfl, Ext.refl _, rfl⟩
            case o4 =>
              intro f w4 hG hp hl
              have hE : Ext w2 w4 := hG
              have hS := hE.size
              simp only [OpGoal]
              go_simp
              exact ⟨_, rfl, Ext.refl _, rfl⟩
            case o5 =>
              intro f w4 hG hp hl
              have hE : Ext w2 w4 := hG
              have hS := hE.size
              simp only [OpGoal]
              go_simp
              exact ⟨_, rfl, Ext.refl _, rfl⟩
            case o6 =>
              intro f w4 hG hp hl
              have hE : Ext w2 w4 := hG
              have hS := hE.size
              have q54 : f 5 = .pointer (some ⟨p, 0, none⟩) := tellM hp 0 5 rfl rfl
              simp only [OpGoal]
              go_simp
              exact ⟨_, rfl, Ext.refl _, rfl⟩
            case o7 =>
              intro f w4 hG hp hl
              have hE : Ext w2 w4 := hG
              have hS := hE.size
              have q55 : f 6 = .pointer (some ⟨p, 0, none⟩) := tellM hp 0 6 rfl rfl
              simp only [OpGoal]
              go_simp
              exact ⟨_, rfl, Ext.refl _, rfl⟩
            case o8 =>
              intro f w4 hG hp hl
              have hE : Ext w2 w4 := hG
              have hS := hE.size
              have q56 : f 7 = .pointer (some ⟨p, 1, none⟩) := tellM hp 0 7 rfl rfl
              have hcell := (P3.ext hE).cell 1
              simp only [OpGoal]
              go_simp
              exact ⟨_, rfl, Ext.refl _, rfl⟩
            case o9 =>
              intro f w4 hG hp hl
              have hS : w2.heap.size ≤ w4.heap.size := hG.2.2.2.1
              simp only [OpGoal]
              go_simp
              exact ⟨_, rfl, Ext.refl _, rfl⟩
            case o10 =>
              intro f w4 hG hp hl
              have hE : Ext w2 w4 := hG
              have hS := hE.size
              simp only [OpGoal]
              go_simp
              exact ⟨_, rfl, Ext.refl _, rfl⟩
            case o11 =>
              intro f w4 hG hp hl
              have hE : Ext w2 w4 := hG
              have hS := hE.size
              have q59 : f 10 = .pointer (some ⟨p, 0, none⟩) := tellM hp 0 10 rfl rfl
              simp only [OpGoal]
              go_simp
              exact ⟨_, rfl, Ext.refl _, rfl⟩
            case o12 =>
              intro f w4 hG hp hl
              have hE : Ext w2 w4 := hG
              have hS := hE.size
              have q60 : f 11 = .pointer (some ⟨p, 0, none⟩) := tellM hp 0 11 rfl rfl
              simp only [OpGoal]
              go_simp
              exact ⟨_, rfl, Ext.refl _, rfl⟩
            case o13 =>
              intro f w4 hG hp hl
              have hE : Ext w2 w4 := hG
              have hS := hE.size
              have q61 : f 12 = .pointer (some ⟨p, 1, none⟩) := tellM hp 0 12 rfl rfl
              have hcell := (P3.ext hE).cell 1
              simp only [OpGoal]
              go_simp
              exact ⟨_, rfl, Ext.refl _, rfl⟩
            case o14 =>
              intro f w4 hG hp hl
              have hE : Ext w2 w4 := hG
              have hS := hE.size
              simp only [OpGoal]
              go_simp
              exact ⟨_, rfl, Ext.refl _, rfl⟩
            case o15 =>
              intro f w4 hG hp hl
              have hE : Ext w2 w4 := hG
              have hS := hE.size
              have q62 : f 13 = .slice (some ⟨g, 0, none⟩) (n + 1) cap' := tellM hp 0 13 rfl rfl
              have q63 : f 14 = .int .i64 (m : Int) := tellM hp 1 14 rfl rfl
              simp only [OpGoal]
              go_simp
              exact ⟨_, rfl, Ext.refl _, rfl⟩
            case o16 =>
              intro f w4 hG hp hl
              have hE : Ext w2 w4 := hG
              have hS := hE.size
              have q64 : f 15 = .pointer (some ⟨g, m * 5, none⟩) := tellM hp 0 15 rfl rfl
              change OpGoal _ _ _ f w4 Ext _
              exact og_loadAt (P := Try.prog) _ _ g (m * 5) _ _ rfl rfl q64 (fun j v h => HC4.out _ hE j v h) Try.underlying74 rfl (by kernel_rfl) rfl
            case o17 =>
              intro f w4 hG hp hl
              have hE : Ext w2 w4 := hG
              have hS := hE.size
              simp only [OpGoal]
              go_simp
              exact ⟨_, rfl, Ext.refl _, rfl⟩
            case o18 =>
              intro f w4 hG hp hl
              have hE : Ext w2 w4 := hG
              have hS := hE.size
              have q66 : f 17 = .pointer (some ⟨p, 0, none⟩) := tellM hp 0 17 rfl rfl
              simp only [OpGoal]
              go_simp
              exact ⟨_, rfl, Ext.refl _, rfl⟩
            case o19 =>
              intro f w4 hG hp hl
              have hE : Ext w2 w4 := hG
              have hS := hE.size
              have q67 : f 18 = .pointer (some ⟨p, 0, none⟩) := tellM hp 0 18 rfl rfl
              simp only [OpGoal]
              go_simp
              exact ⟨_, rfl, Ext.refl _, rfl⟩
            case o20 =>
              intro f w4 hG hp hl
              have hE : Ext w2 w4 := hG
              have hS := hE.size
              have q68 : f 19 = .pointer (some ⟨p, 1, none⟩) := tellM hp 0 19 rfl rfl
              have hcell := (P3.ext hE).cell 1
              simp only [OpGoal]
              go_simp
              exact ⟨_, rfl, Ext.refl _, rfl⟩
            case o21 =>
              intro f w4 hG hp hl
              have hE : Ext w2 w4 := hG
              have hS := hE.size
              simp only [OpGoal]
              go_simp
              exact ⟨_, rfl, Ext.refl _, rfl⟩
            case o22 =>
              intro f w4 hG hp hl
              have hE : Ext w2 w4 := hG
              have hS := hE.size
              have q69 : f 20 = .slice (some ⟨g, 0, none⟩) (n + 1) cap' := tellM hp 0 20 rfl rfl
              have q70 : f 21 = .int .i64 (i : Int) := tellM hp 1 21 rfl rfl
              simp only [OpGoal]
              go_simp
              exact ⟨_, rfl, Ext.refl _, rfl⟩
            case o23 =>
              intro f w4 hG hp hl
              have hE : Ext w2 w4 := hG
              have hS := hE.size
              have q71 : f 22 = .pointer (some ⟨g, i * 5, none⟩) := tellM hp 0 22 rfl rfl
              change OpGoal _ _ _ f w4 Ext _
              exact og_loadAt (P := Try.prog) _ _ g (i * 5) _ _ rfl rfl q71 (fun j v h => HC3.out _ hE j v h) Try.underlying74 rfl (by kernel_rfl) rfl
            case o24 =>
              intro f w4 hG hp hl
              have hE : Ext w2 w4 := hG
              have hS := hE.size
              have q52 : f 3 = .slice (some ⟨g, 0, none⟩) (n + 1) cap' := tellM hp 0 3 rfl rfl
              have q53 : f 4 = .int .i64 (i : Int) := tellM hp 1 4 rfl rfl
              simp only [OpGoal]
              go_simp
              exact ⟨_, rfl, Ext.refl _, rfl⟩
            case o25 =>
              intro f w4 hG hp hl
              have hE : Ext w2 w4 := hG
              have hS := hE.size
              have q73 : f 24 = .pointer (some ⟨g, i * 5, none⟩) := tellM hp 0 24 rfl rfl
              have q65 : f 16 = .agg #[.int .i64 x2.id, .int .i64 x2.depth, .bool b2, .slice a4 n4 c4, .slice e2 m2 f2] := tellM hp 1 16 rfl rfl
              intro hI hU
              exact og_stN (P := Try.prog) g (n + 1) _ _ 25 i _ _ _ _ _ _ rfl rfl q73 q65 hi (by kernel_rfl) (HN2.out.five) hI
            case o26 =>
              intro f w4 hG hp hl
              have hS : w2.heap.size ≤ w4.heap.size := hG.2.2.2.1
              have q57 : f 8 = .slice (some ⟨g, 0, none⟩) (n + 1) cap' := tellM hp 0 8 rfl rfl
              have q58 : f 9 = .int .i64 (m : Int) := tellM hp 1 9 rfl rfl
              simp only [OpGoal]
              go_simp
              exact ⟨_, rfl, Ext.refl _, rfl⟩
            case o27 =>
              intro f w4 hG hp hl
              have hS : w2.heap.size ≤ w4.heap.size := hG.2.2.2.1
              have q74 : f 26 = .pointer (some ⟨g, m * 5, none⟩) := tellM hp 0 26 rfl rfl
              have q72 : f 23 = .agg #[.int .i64 x1.id, .int .i64 x1.depth, .bool b1, .slice a3 n3 c3, .slice e1 m1 f1] := tellM hp 1 23 rfl rfl
              intro hI hU
              exact og_stN (P := Try.prog) g (n + 1) _ _ 27 m _ _ _ _ _ _ rfl rfl q74 q72 hmn (by kernel_rfl) (HN1.out.five) hI
          · intro f w4 hC hW hp
            clear hp
            have HSw := Lib.hid (HNds.out.swap hC (by rw [HDN.out]; exact hi) (by rw [HDN.out]; exact hmn) HV1.out HV2.out hW)
            clear hW
            have HUp := Lib.hid (UpInv.step' hH.out.2.1 hmM.out (by rw [HDN.out]; exact hi) (by rw [HDN.out]; exact hmn) hi0' HLt.out)
            have hpg : p ≠ g := by
              rintro rfl
              have h1 := HNds.out.2.1.2
              have h2 := P3
              unfold Bx at h1 h2
              rw [h1] at h2
              simp at h2
            have HP4 := Lib.hid (P3.chg hC hpg)
            clear P2 P3
            go_wp2
            go_step3
            obtain ⟨-, -, q3, q4, q5, q6, q7, q8, q9, q10, q11⟩ := hH.out
            refine ⟨rfl, PushJ.mk _ _ _ _ _ _ _ _ _ _ _ _ _ _ _ _ _ _ _ _ _ _ _ _ _ _ _ _ _ _ _ _ _ _ _ _ _ _ _ _ _ _ _ _ _ _ _ _ _ _ _ _ _ _ _ _ _ _ _ _ _ _ _ _ _ _ _ _ _ _ _ _ _ _ ⟨hmn, Lib.hid ⟨HSw.out, HUp.out, (Array.perm_iff_toList_perm.1 (Array.swap_perm _ _)).trans q3, by rw [Array.size_swap]; exact q4, ChgS.stepC (q5.trans (hE0.chgS _)) hC (q11.imp_left fun h => List.mem_cons_of_mem _ (blks_mem h)), HP4.out, q7, q8, by rw [List.length_set, List.length_set]; exact q9, q10, q11⟩⟩, ?_⟩
            simp [intOf]
            omega
  · intro hpass
    have Hpass := Lib.hid hpass
    clear hpass
    obtain ⟨w1, hw1, e1, b1, s1⟩ := alloc1 w #[.int .i64 x.id, .int .i64 x.depth, .bool b, .slice a1 n1 c1, .slice a2 n2 c2] 74
    have hc2 := b1.cell 2
    have hc3 := b1.cell 3
    have hc4 := b1.cell 4
    rw [hw1] at hc2 hc3 hc4
    go_wp2_with fail
    rw [← hw1]
    clear hc2 hc3 hc4
    refine (form_calls _ x.q k _ (HX.out.ext e1) (by omega)).mono ?_
    rintro e w2 ⟨v2, rfl, q2, e2⟩
    obtain ⟨b3, ad3, l3, cap3, bd3, m3, dap3, rfl, q3⟩ := q2.opn
    have B2 := b1.ext e2
    have hf2 := B2.free 2
    have hf3 := B2.free 3
    have hf4 := B2.free 4
    have hc2 := B2.cell 2
    have hc3 := B2.cell 3
    have hc4 := B2.cell 4
    have B3 := ((B2.set 2 (.bool b3)).set 3 (.slice ad3 l3 cap3)).set 4 (.slice bd3 m3 dap3)
    have CH := Chg.trans (Chg.trans (Chg.setCell w2 w.heap.size 2 (.bool b3)) (Chg.setCell _ w.heap.size 3 (.slice ad3 l3 cap3))) (Chg.setCell _ w.heap.size 4 (.slice bd3 m3 dap3))
    go_wp2_with fail
    obtain ⟨w3, hw3⟩ : ∃ w3, w3 = ((w2.setCell ⟨w.heap.size, 2, none⟩ (.bool b3)).setCell ⟨w.heap.size, 3, none⟩ (.slice ad3 l3 cap3)).setCell ⟨w.heap.size, 4, none⟩ (.slice bd3 m3 dap3) := ⟨_, rfl⟩
    rw [← hw3] at B3 CH
    rw [← hw3]
    clear hw3 hf2 hf3 hf4 hc2 hc3 hc4
    have B3' : Bx 74 w3 w.heap.size #[.int .i64 x.id, .int .i64 x.depth, .bool b3, .slice ad3 l3 cap3, .slice bd3 m3 dap3] := B3
    clear B3
    have E3 := (e1.trans e2).step CH (Nat.le_refl _)
    have hs1 := e1.size
    have hs2 := e2.size
    have hs3 := E3.size
    have HV := Lib.hid (show NdV B k w3 (.agg #[.int .i64 x.id, .int .i64 x.depth, .bool b3, .slice ad3 l3 cap3, .slice bd3 m3 dap3]) x from ⟨_, _, _, _, _, _, _, rfl, (q3.chg CH (by omega)).mono (by omega), HX.out.sz⟩)
    have P3 := HP.out.ext E3
    have HO3 := Lib.hid (ownsRow_ext HOwn.out E3)
    obtain ⟨gA, hgA, hgr, hgb⟩ := gA_spec HOwn.out E3 B3' (Nat.le_refl _)
    have hgAp : gA ≠ p := by
      rintro rfl
      obtain ⟨cs, h1⟩ := hgA
      have h2 := P3
      unfold Bx at h1 h2
      rw [h1] at h2
      simp at h2
    have HGA := Lib.hid hgA
    have HGR := Lib.hid hgr
    have hgAl : gA < w3.heap.size := by obtain ⟨cs, h1⟩ := hgA; exact blk_lt h1
    clear hgA hgr
    have E3' := E3
    clear e1 e2 CH b1 B2 E3
    refine wp_region_app w.heap.size gA p B n 7 10 (.int .i64 (ordV best)) (.slice ad n cap) (flat vs ++ [.int .i64 x.id, .int .i64 x.depth, .bool b3, .slice ad3 l3 cap3, .slice bd3 m3 dap3]) [PP.val (.pointer (some ⟨p, 0, none⟩)), PP.val (.pointer (some ⟨p, 0, none⟩)), PP.val (.pointer (some ⟨p, 0, none⟩)), PP.val (.pointer (some ⟨p, 1, none⟩)), PP.val (.slice ad n cap), PP.val (.agg #[.int .i64 x.id, .int .i64 x.depth, .bool b3, .slice ad3 l3 cap3, .slice bd3 m3 dap3]), PP.one #[.int .i64 x.id, .int .i64 x.depth, .bool b3, .slice ad3 l3 cap3, .slice bd3 m3 dap3], PP.any, PP.val (.pointer (some ⟨p, 0, none⟩)), PP.val (.pointer (some ⟨p, 1, none⟩)), PP.any] [] [7, 6, 5, 4, 3, 2, 1] (by kernel_rfl) (by kernel_rfl) (fun f => (by simp only [fillR, fillL, List.setIfInBounds_toArray, List.set_cons_succ, List.set_cons_zero, Nat.reduceAdd]; rfl)) (by decide) hgAp hgAl P3 ⟨_, _, rfl⟩ (by intro p hp; simp only [List.mem_cons, List.not_mem_nil, or_false] at hp; rcases hp with rfl | rfl | rfl | rfl | rfl | rfl | rfl | rfl | rfl | rfl | rfl <;> rfl) ?_ ?_ (by decide)
    · refine ⟨?o0, ?o1, ?o2, ?o3, ?o4, ?o5, ?o6, ?o7, ?o8, ?o9, ?o10, trivial⟩
      case o0 =>
        intro f w4 hG hp hl
        have hS : w3.heap.size ≤ w4.heap.size := hG.2.2.2.1
        simp only [OpGoal]
        go_simp
        exact ⟨_, rfl, Ext.refl _, rfl⟩
      case o1 =>
        intro f w4 hG hp hl
        have hE : Ext w3 w4 := hG
        have hS := hE.size
        simp only [OpGoal]
        go_simp
        exact ⟨_, rfl, Ext.refl _, rfl⟩
      case o2 =>
        intro f w4 hG hp hl
        have hE : Ext w3 w4 := hG
        have hS := hE.size
        have q11 : f 1 = .pointer (some ⟨p, 0, none⟩) := tellM hp 0 1 rfl rfl
        simp only [OpGoal]
        go_simp
        exact ⟨_, rfl, Ext.refl _, rfl⟩
      case o3 =>
        intro f w4 hG hp hl
        have hE : Ext w3 w4 := hG
        have hS := hE.size
        have q12 : f 2 = .pointer (some ⟨p, 0, none⟩) := tellM hp 0 2 rfl rfl
        simp only [OpGoal]
        go_simp
        exact ⟨_, rfl, Ext.refl _, rfl⟩
      case o4 =>
        intro f w4 hG hp hl
        have hE : Ext w3 w4 := hG
        have hS := hE.size
        have q13 : f 3 = .pointer (some ⟨p, 1, none⟩) := tellM hp 0 3 rfl rfl
        have hcell := (P3.ext hE).cell 1
        simp only [OpGoal]
        go_simp
        exact ⟨_, rfl, Ext.refl _, rfl⟩
      case o5 =>
        intro f w4 hG hp hl
        have hE : Ext w3 w4 := hG
        have hS := hE.size
        change OpGoal _ _ _ f w4 Ext _
        exact og_load (P := Try.prog) _ _ w.heap.size _ _ _ rfl rfl rfl (B3'.ext hE) Try.underlying74 rfl (by kernel_rfl) rfl
      case o6 =>
        intro f w4 hG hp hl
        have hE : Ext w3 w4 := hG
        have hS := hE.size
        have q15 : f 5 = .agg #[.int .i64 x.id, .int .i64 x.depth, .bool b3, .slice ad3 l3 cap3, .slice bd3 m3 dap3] := tellM hp 0 5 rfl rfl
        change OpGoal _ _ _ f w4 Ext _
        exact og_buildSlice (P := Try.prog) 68 74 1 5 _ [.agg #[.int .i64 x.id, .int .i64 x.depth, .bool b3, .slice ad3 l3 cap3, .slice bd3 m3 dap3]] rfl rfl Try.underlying68 (by kernel_rfl) (by kernel_rfl) (by simp only [Act.eval]; exact congrArg (fun z => [(0, z)]) q15) rfl (by omega) (by omega) (by omega) HV.out.five.size (fun w' he hb => ⟨_, hS, rfl, hb⟩)
      case o7 =>
        intro f w4 hG hp hl
        have hE : Ext w3 w4 := hG
        have hS := hE.size
        have q14 : f 4 = .slice ad n cap := tellM hp 0 4 rfl rfl
        have q16 := tellM hp 1 6 rfl rfl
        intro hI hU
        have q14 : f 4 = .slice ad n cap := tellM hp 0 4 rfl rfl
        obtain ⟨gx, hgx, hvx, hbx⟩ := tellM hp 1 6 rfl rfl
        exact og_append (P := Try.prog) _ _ 68 rfl rfl B 74 5 72 Try.underlying68 (by kernel_rfl) (by kernel_rfl) (by omega) (.slice ad n cap) n (flat vs) q14 (ownsRow_ext HO3.out hE) ⟨gx, 0, none⟩ 1 1 [.int .i64 x.id, .int .i64 x.depth, .bool b3, .slice ad3 l3 cap3, .slice bd3 m3 dap3] hvx rfl (fun j u hj => by rw [addr_add, Nat.zero_add, hbx.cell]; simpa using hj) (by intro u hu; simp at hu; rcases hu with rfl | rfl | rfl | rfl | rfl <;> rfl) (by omega) (by unfold maxLen; omega) (by omega) (by have := hE.size; omega) (fun v' w' h1 h2 h3 => ⟨⟨P3.ext hE, HGR.out _ _ h2⟩, h1, fun g hg => (h3 g hg).imp_right fun h => by have := hE.size; omega⟩)
      case o8 =>
        intro f w4 hG hp hl
        have hS : w3.heap.size ≤ w4.heap.size := hG.2.2.2.1
        have q10 : f 0 = .pointer (some ⟨p, 0, none⟩) := tellM hp 0 0 rfl rfl
        simp only [OpGoal]
        go_simp
        exact ⟨_, rfl, Ext.refl _, rfl⟩
      case o9 =>
        intro f w4 hG hp hl
        have hS : w3.heap.size ≤ w4.heap.size := hG.2.2.2.1
        have q18 : f 8 = .pointer (some ⟨p, 0, none⟩) := tellM hp 0 8 rfl rfl
        simp only [OpGoal]
        go_simp
        exact ⟨_, rfl, Ext.refl _, rfl⟩
      case o10 =>
        intro f w4 hG hp hl
        have hS : w3.heap.size ≤ w4.heap.size := hG.2.2.2.1
        have q19 : f 9 = .pointer (some ⟨p, 1, none⟩) := tellM hp 0 9 rfl rfl
        intro hI hU
        have q19 : f 9 = .pointer (some ⟨p, 1, none⟩) := tellM hp 0 9 rfl rfl
        have q17 := tellMS hp 1 7 rfl (show smAt _ 7 = some (stA w.heap.size gA p (.int .i64 (ordV best)) (.slice ad n cap) B n _ 7) from rfl)
        obtain ⟨ad', cap', hv'⟩ := ownsRow_len q17.1
        have hPw : Bx 123 w4 p #[.int .i64 (ordV best), .slice ad n cap] := (show w4.heap[p]? = w3.heap[p]? from hU).trans P3
        have hcl := hPw.cell 1
        have hfr := hPw.free 1
        change OpGoal _ _ _ f w4 _ _
        have HQ := Lib.hid q17
        clear q17
        simp only [OpGoal]
        go_simp
        exact ⟨undef, rfl, ⟨⟨_, hPw⟩, Chg.setCell _ _ _ _⟩, _, hPw.set 1 _, ownsRow_chg (hv' ▸ HQ.out.1) (Chg.setCell _ _ _ _) hPw (by decide), hv' ▸ HQ.out.2⟩
    · intro f w4 hC hF hp
      clear hp
      obtain ⟨v5, hP4, hO4, hW4⟩ := hF
      have hO4' : w4.ownsRow B 74 5 v5 (n + 1) (flat (vs ++ [.agg #[.int .i64 x.id, .int .i64 x.depth, .bool b3, .slice ad3 l3 cap3, .slice bd3 m3 dap3]])) := by
        rw [flat_append]
        exact hO4
      have hfv : Five (vs ++ [Value.agg #[.int .i64 x.id, .int .i64 x.depth, .bool b3, .slice ad3 l3 cap3, .slice bd3 m3 dap3]]) := by
        intro u hu
        rcases List.mem_append.1 hu with hu | hu
        · exact H5.out u hu
        · exact HV.out.five u hu
      have hlv : (vs ++ [Value.agg #[.int .i64 x.id, .int .i64 x.depth, .bool b3, .slice ad3 l3 cap3, .slice bd3 m3 dap3]]).length = n + 1 := by
        rw [List.length_append, HVl.out, HN.out]
        rfl
      obtain ⟨g5, cap5, rest5, rfl, hB5, hc5, hm5, hl5, hold⟩ := ownsRow_hold hO4' hfv hlv
      have hbt : ∀ g ∈ [gA, p], ∃ t cs, Bx t w3 g cs ∧ t ≠ 105 := by
        intro g hg
        simp only [List.mem_cons, List.not_mem_nil, or_false] at hg
        rcases hg with rfl | rfl
        · obtain ⟨cs, h⟩ := HGA.out
          exact ⟨_, cs, h, by decide⟩
        · exact ⟨_, _, P3, by decide⟩
      have HNds := Lib.hid (show Nds B k g5 rest5 w4 (vs ++ [.agg #[.int .i64 x.id, .int .i64 x.depth, .bool b3, .slice ad3 l3 cap3, .slice bd3 m3 dap3]]) (d.push x) from by
        refine ⟨by rw [hlv, Array.size_push, HN.out], hold, fun i v hi => ?_⟩
        have hvd := HVl.out
        by_cases hin : i < vs.length
        · rw [List.getElem?_append_left hin] at hi
          have hnd := HNd.out i v hi
          have hget : (d.push x)[i]! = d[i]! := by
            rw [getElem!_pos _ i (by rw [Array.size_push]; omega), getElem!_pos d i (by omega), Array.getElem_push_lt (by omega)]
          rw [hget]
          exact (hnd.ext E3').chgB hC hbt
        · have hil := (List.getElem?_eq_some_iff.1 hi).1
          rw [hlv] at hil
          have hie : i = vs.length := by have := HN.out; omega
          subst hie
          rw [List.getElem?_concat_length] at hi
          cases hi
          have hget : (d.push x)[vs.length]! = x := by
            rw [getElem!_pos _ vs.length (by rw [Array.size_push]; omega)]
            simp only [hvd, Array.getElem_push_eq]
          rw [hget]
          exact HV.out.chgB hC hbt)
      have HUp := Lib.hid (show UpInv best (d.push x) n by rw [HN.out]; exact UpInv.start HHh.out)
      have HC := Lib.hid (show ChgS (p :: blks (.slice ad n cap)) w w4 from (E3'.chgS _).more hC (fun g hg => by
        simp only [List.mem_cons, List.not_mem_nil, or_false] at hg
        rcases hg with rfl | rfl
        · exact hgb.imp_left (List.mem_cons_of_mem _)
        · exact .inl (List.mem_cons_self ..)))
      have HP4 := Lib.hid hP4
      have HW4 := Lib.hid (hW4 g5 rfl)
      have hcl := hP4.cell 1
      clear hO4 hO4' hfv hold hbt hC P3 hP4 hW4
      go_wp2
      go_step3
      simp only [Exit.then]
      rename_i hK
      refine hK _ _ ?_
      exact Hpass.out _ _ (PushJ.mk _ _ _ _ _ _ _ _ _ _ _ _ _ _ _ _ _ _ _ _ _ _ _ _ _ _ _ _ _ _ _ _ _ _ _ _ _ _ _ _ _ _ _ _ _ _ _ _ _ _ _ _ _ _ _ _ _ _ _ _ _ _ _ _ _ _ _ _ _ _ _ _ _ _ ⟨by omega, Lib.hid ⟨HNds.out, HUp.out, List.Perm.refl _, by rw [Array.size_push, HN.out], HC.out, HP4.out, hc5, hm5, hl5, hB5, HW4.out⟩⟩)
end Go.Proofs.Ytkcnnlhaiahpbaa

/-
  A new queue, how many wait; the document's order; a whole number as a fraction.
-/
namespace Go.Proofs.Ytkcnnlhaiahpbaa
open Go.RowKit
set_option linter.unusedVariables false
set_option linter.unusedSimpArgs false

set_option maxRecDepth 100000 in
set_option maxHeartbeats 1000000 in
theorem rqofR_calls (v : Value) (q : Rat) (k : Nat) (w : World) (hv : IsR w v q k) (hk : k ≤ 1000) :
    Calls Try.prog 30 #[v] w fun e w' => ∃ v', e = .returned v' ∧ FrQd w.heap.size w' v' q ∧ Ext w w' := by
  obtain ⟨n, d, h1, rfl, h2, h3⟩ := hv
  have a1 := szTK_le n.natAbs
  have a2 := szTK_le d
  have b1 : sz W n.natAbs ≤ k := h2
  exact rqof3_calls _ _ _ _ h1 (by show sz TK n.natAbs ≤ _; omega) (by omega)
set_option maxRecDepth 100000 in
set_option maxHeartbeats 1000000 in
theorem IsR.szD {w : World} {v : Value} {q : Rat} {k : Nat} (h : IsR w v q k) : szD q ≤ 5 * k := by
  have h1 := h.sz
  have a1 := szTK_le q.num.natAbs
  have a2 := szTK_le q.den
  unfold szQ szZ at h1
  unfold Go.Proofs.Ytkcnnlhaiahpbaa.szD szT
  omega

set_option maxRecDepth 100000 in
set_option maxHeartbeats 1000000 in
theorem qnew_calls (best : Bool) (w : World) :
    Calls Try.prog 56 #[.int .i64 (ordV best)] w fun e w' => e = .returned (.tuple #[.pointer (some ⟨w.heap.size, 0, none⟩), .int .i64 0]) ∧ Bx 123 w' w.heap.size #[.int .i64 (ordV best), .slice none 0 0] ∧ Ext w w' := by
  obtain ⟨w1, hw1, e1, b1, s1⟩ := alloc1 w #[.int .i64 (ordV best), .slice none 0 0] 123
  cases best with
  | true =>
    have hq : ordV true = 0 := rfl
    rw [hq] at *
    go_enter Try.func56, Try.ntmps56
    go_wp2
    go_ret2
    refine ⟨rfl, ?_, ?_⟩
    · exact hw1 ▸ b1
    · exact hw1 ▸ e1
  | false =>
    have hq : ordV false = 1 := rfl
    rw [hq] at *
    go_enter Try.func56, Try.ntmps56
    go_wp2
    go_ret2
    refine ⟨rfl, ?_, ?_⟩
    · exact hw1 ▸ b1
    · exact hw1 ▸ e1
set_option maxRecDepth 100000 in
set_option maxHeartbeats 1000000 in
theorem qnew_bad (o : Int) (w : World) (h0 : ¬ o = 0) (h1 : ¬ o = 1) :
    Calls Try.prog 56 #[.int .i64 o] w fun e w' => e = .returned (.tuple #[.pointer none, .int .i64 2]) ∧ Ext w w' := by
  have hb0 : (o != 0) = true := by simp [h0]
  have hb1 : (o != 1) = true := by simp [h1]
  go_enter Try.func56, Try.ntmps56
  go_wp2
  go_ret2
  exact ⟨rfl, Ext.refl _⟩
set_option maxRecDepth 100000 in
set_option maxHeartbeats 1000000 in
theorem qlen_calls (p : Nat) (o : Value) (ad : Option Addr) (n cap : Nat) (w : World) (hp : Bx 123 w p #[o, .slice ad n cap]) :
    Calls Try.prog 61 #[.pointer (some ⟨p, 0, none⟩)] w fun e w' => e = .returned (.int .i64 (n : Int)) ∧ Ext w w' := by
  have hc := hp.cell 1
  go_enter Try.func61, Try.ntmps61
  go_wp2
  go_ret
  exact ⟨rfl, Ext.refl _⟩
set_option maxRecDepth 100000 in
set_option maxHeartbeats 1000000 in
theorem rless_calls (x y : Int) (w : World) :
    Calls Try.prog 100 #[.int .i64 x, .int .i64 y] w fun e w' => e = .returned (.int .i64 (cmpI x y)) ∧ Ext w w' := by
  rcases (show x < y ∨ x = y ∨ y < x by omega) with h | h | h
  · have hr : cmpI x y = -1 := by unfold cmpI Lib.compareInt; rw [if_pos h]
    rw [hr]
    go_enter Try.func100, Try.ntmps100
    go_wp2
    go_ret
    exact ⟨rfl, Ext.refl _⟩
  · subst h
    have hr : cmpI x x = 0 := by unfold cmpI Lib.compareInt; rw [if_neg (by omega), if_neg (by omega)]
    rw [hr]
    go_enter Try.func100, Try.ntmps100
    go_wp2
    go_ret
    exact ⟨rfl, Ext.refl _⟩
  · have hr : cmpI x y = 1 := by unfold cmpI Lib.compareInt; rw [if_neg (by omega), if_pos h]
    rw [hr]
    have h2 : ¬ x < y := by omega
    go_enter Try.func100, Try.ntmps100
    go_wp2
    go_ret
    exact ⟨rfl, Ext.refl _⟩

set_option maxRecDepth 100000 in
set_option maxHeartbeats 1000000 in
theorem rahead_calls (best : Bool) (va vb : Value) (a b : Nd) (k : Nat) (w : World) (ha : NdR k w va a) (hb : NdR k w vb b) (hk : k ≤ 1000) :
    Calls Try.prog 60 #[.int .i64 (ordV best), va, vb] w fun e w' => e = .returned (.bool (decide (Lt best a b))) ∧ Ext w w' := by
  obtain ⟨c1, a1, n1, k1, a2, n2, k2, rfl, ra⟩ := ha
  obtain ⟨c2, a3, n3, k3, a4, n4, k4, rfl, rb⟩ := hb
  have Ra := Lib.hid ra
  have Rb := Lib.hid rb
  have hbest := or3_best a b
  have hdeep := or3_deep a b
  obtain ⟨x, hx⟩ : ∃ x, x = cmpQ a.q b.q := ⟨_, rfl⟩
  obtain ⟨y, hy⟩ : ∃ y, y = cmpI b.depth a.depth := ⟨_, rfl⟩
  obtain ⟨z, hz⟩ : ∃ z, z = decide (a.id < b.id) := ⟨_, rfl⟩
  have hzz : cmpI a.id b.id < 0 ↔ z = true := by
    rw [hz, decide_eq_true_eq]
    unfold cmpI Lib.compareInt
    split
    · simp; omega
    · split <;> simp <;> omega
  unfold or3 at hbest hdeep
  rw [← hx, ← hy] at hbest hdeep
  have Hx := Lib.hid hx.symm
  have Hy := Lib.hid hy.symm
  have Hz := Lib.hid hz.symm
  obtain ⟨i1, d1, q1⟩ := a
  obtain ⟨i2, d2, q2⟩ := b
  obtain ⟨r, hr⟩ : ∃ r, r = decide (Lt best ⟨i1, d1, q1⟩ ⟨i2, d2, q2⟩) := ⟨_, rfl⟩
  rw [← hr]
  have Hres := Lib.hid (show ∀ (u v : Int), (u = if best then x else y) → (v = if best then y else x) → r = if u ≠ 0 then decide (u < 0) else if v ≠ 0 then decide (v < 0) else z from by
    intro u v hu hv
    cases best with
    | true =>
      simp only [if_true] at hu hv
      subst hu hv
      rw [hr]
      by_cases h1 : u = 0
      · by_cases h2 : v = 0
        · rw [if_neg (by simp [h1]), if_neg (by simp [h2])]
          rw [if_neg (by simp [h1]), if_neg (by simp [h2])] at hbest
          cases z with
          | true => exact decide_eq_true (hbest.1 (hzz.2 rfl))
          | false => exact decide_eq_false fun h => by have := hzz.1 (hbest.2 h); cases this
        · rw [if_neg (by simp [h1]), if_pos h2]
          rw [if_neg (by simp [h1]), if_pos h2] at hbest
          exact decide_eq_decide.2 hbest.symm
      · rw [if_pos h1]
        rw [if_pos h1] at hbest
        exact decide_eq_decide.2 hbest.symm
    | false =>
      simp only [Bool.false_eq_true, if_false] at hu hv
      subst hu hv
      rw [hr]
      by_cases h1 : u = 0
      · by_cases h2 : v = 0
        · rw [if_neg (by simp [h1]), if_neg (by simp [h2])]
          rw [if_neg (by simp [h1]), if_neg (by simp [h2])] at hdeep
          cases z with
          | true => exact decide_eq_true (hdeep.1 (hzz.2 rfl))
          | false => exact decide_eq_false fun h => by have := hzz.1 (hdeep.2 h); cases this
        · rw [if_neg (by simp [h1]), if_pos h2]
          rw [if_neg (by simp [h1]), if_pos h2] at hdeep
          exact decide_eq_decide.2 hdeep.symm
      · rw [if_pos h1]
        rw [if_pos h1] at hdeep
        exact decide_eq_decide.2 hdeep.symm)
  have sa := ra.szD
  have sb := rb.szD
  clear ra rb hx hy hz hbest hdeep hzz hr
  go_enter Try.func60, Try.ntmps60
  obtain ⟨w1, hw1, e1, b1, b2, s1⟩ := alloc2 w #[.int .i64 i1, .int .i64 d1, .bool c1, .slice a1 n1 k1, .slice a2 n2 k2] #[.int .i64 i2, .int .i64 d2, .bool c2, .slice a3 n3 k3, .slice a4 n4 k4] 74 74
  go_wp2_with fail
  rw [← hw1]
  refine wp_region_puts [] [PP.val (.pointer (some ⟨w.heap.size, 2, none⟩)), PP.val (.agg #[.bool c1, .slice a1 n1 k1, .slice a2 n2 k2]), PP.frQd q1, PP.val (.pointer (some ⟨(w.heap.size + 1), 2, none⟩)), PP.val (.agg #[.bool c2, .slice a3 n3 k3, .slice a4 n4 k4]), PP.frQd q2, PP.val (.int .i64 x), PP.val (.pointer (some ⟨(w.heap.size + 1), 1, none⟩)), PP.val (.int .i64 d2), PP.val (.pointer (some ⟨w.heap.size, 1, none⟩)), PP.val (.int .i64 d1), PP.val (.int .i64 y), PP.val (.int .i64 x), PP.val (.int .i64 y)] [] [0, 1, 2, 3, 4, 5, 6, 7, 8, 9, 10, 11, 12, 13]
    (by kernel_rfl) (by kernel_rfl) (fun f => (by simp only [fillR, fillL, List.setIfInBounds_toArray, List.set_cons_succ, List.set_cons_zero, Nat.reduceAdd]; rfl)) ?_ ?_ ?_ ?_ ?_
  · intro x hx; cases hx
  · intro x hx; cases hx
  · intro x hx; cases hx
  · refine ⟨?o0, ?o1, ?o2, ?o3, ?o4, ?o5, ?o6, ?o7, ?o8, ?o9, ?o10, ?o11, ?o12, ?o13, trivial⟩
    case o0 =>
      intro f w2 hG hp hl
      have hE : Ext w1 w2 := hG
      have hS := hE.size
      simp only [OpGoal]
      go_simp
      exact ⟨_, rfl, Ext.refl _, rfl⟩
    case o1 =>
      intro f w2 hG hp hl
      have hE : Ext w1 w2 := hG
      have hS := hE.size
      have q10 : f 0 = .pointer (some ⟨w.heap.size, 2, none⟩) := tellV hp 0 0 rfl rfl (fun h => by cases h)
      have hbx := b1.ext hE
      have hcell0 := hbx.cell 0
      have hcell1 := hbx.cell 1
      have hcell2 := hbx.cell 2
      have hcell3 := hbx.cell 3
      have hcell4 := hbx.cell 4
      simp only [OpGoal]
      go_simp
      exact ⟨_, rfl, Ext.refl _, rfl⟩
    case o2 =>
      intro f w2 hG hp hl
      have hE : Ext w1 w2 := hG
      have hS := hE.size
      have q11 : f 1 = .agg #[.bool c1, .slice a1 n1 k1, .slice a2 n2 k2] := tellV hp 0 1 rfl rfl (fun h => by cases h)
      change OpGoal _ _ _ f w2 Ext _
      refine og_call (P := Try.prog) _ _ _ #[f 1] Try.func30 (by kernel_rfl) (by kernel_rfl) rfl rfl (by kernel_rfl) ?_
      rw [q11]
      refine (rqofR_calls _ _ _ _ (Ra.out.ext (e1.trans hE)) hk).mono ?_
      rintro e w' ⟨v', rfl, h1, h2⟩
      exact ⟨v', rfl, h2, h1.mono hS⟩
    case o3 =>
      intro f w2 hG hp hl
      have hE : Ext w1 w2 := hG
      have hS := hE.size
      simp only [OpGoal]
      go_simp
      exact ⟨_, rfl, Ext.refl _, rfl⟩
    case o4 =>
      intro f w2 hG hp hl
      have hE : Ext w1 w2 := hG
      have hS := hE.size
      have q13 : f 3 = .pointer (some ⟨(w.heap.size + 1), 2, none⟩) := tellV hp 0 3 rfl rfl (fun h => by cases h)
      have hbx := b2.ext hE
      have hcell0 := hbx.cell 0
      have hcell1 := hbx.cell 1
      have hcell2 := hbx.cell 2
      have hcell3 := hbx.cell 3
      have hcell4 := hbx.cell 4
      simp only [OpGoal]
      go_simp
      exact ⟨_, rfl, Ext.refl _, rfl⟩
    case o5 =>
      intro f w2 hG hp hl
      have hE : Ext w1 w2 := hG
      have hS := hE.size
      have q14 : f 4 = .agg #[.bool c2, .slice a3 n3 k3, .slice a4 n4 k4] := tellV hp 0 4 rfl rfl (fun h => by cases h)
      change OpGoal _ _ _ f w2 Ext _
      refine og_call (P := Try.prog) _ _ _ #[f 4] Try.func30 (by kernel_rfl) (by kernel_rfl) rfl rfl (by kernel_rfl) ?_
      rw [q14]
      refine (rqofR_calls _ _ _ _ (Rb.out.ext (e1.trans hE)) hk).mono ?_
      rintro e w' ⟨v', rfl, h1, h2⟩
      exact ⟨v', rfl, h2, h1.mono hS⟩
    case o6 =>
      intro f w2 hG hp hl
      have hE : Ext w1 w2 := hG
      have hS := hE.size
      have q12 := tellV hp 0 2 rfl rfl (fun _ => hE)
      have q15 := tellV hp 1 5 rfl rfl (fun _ => hE)
      change OpGoal _ _ _ f w2 Ext _
      refine og_call (P := Try.prog) _ _ _ #[f 2, f 5] Try.func54 (by kernel_rfl) (by kernel_rfl) rfl rfl (by kernel_rfl) ?_
      refine (rqcmp3_calls _ _ q1 q2 (5 * k) (5 * k) _ q12.cq q15.cq sa sb (by omega)).mono ?_
      rw [← cmpQ_eq, Hx.out]
      rintro e w' ⟨rfl, h2⟩
      exact ⟨_, rfl, h2, rfl⟩
    case o7 =>
      intro f w2 hG hp hl
      have hE : Ext w1 w2 := hG
      have hS := hE.size
      simp only [OpGoal]
      go_simp
      exact ⟨_, rfl, Ext.refl _, rfl⟩
    case o8 =>
      intro f w2 hG hp hl
      have hE : Ext w1 w2 := hG
      have hS := hE.size
      have q17 : f 7 = .pointer (some ⟨(w.heap.size + 1), 1, none⟩) := tellV hp 0 7 rfl rfl (fun h => by cases h)
      have hcell := (b2.ext hE).cell 1
      simp only [OpGoal]
      go_simp
      exact ⟨_, rfl, Ext.refl _, rfl⟩
    case o9 =>
      intro f w2 hG hp hl
      have hE : Ext w1 w2 := hG
      have hS := hE.size
      simp only [OpGoal]
      go_simp
      exact ⟨_, rfl, Ext.refl _, rfl⟩
    case o10 =>
      intro f w2 hG hp hl
      have hE : Ext w1 w2 := hG
      have hS := hE.size
      have q19 : f 9 = .pointer (some ⟨w.heap.size, 1, none⟩) := tellV hp 0 9 rfl rfl (fun h => by cases h)
      have hcell := (b1.ext hE).cell 1
      simp only [OpGoal]
      go_simp
      exact ⟨_, rfl, Ext.refl _, rfl⟩
    case o11 =>
      intro f w2 hG hp hl
      have hE : Ext w1 w2 := hG
      have hS := hE.size
      have q18 : f 8 = .int .i64 d2 := tellV hp 0 8 rfl rfl (fun h => by cases h)
      have q20 : f 10 = .int .i64 d1 := tellV hp 1 10 rfl rfl (fun h => by cases h)
      change OpGoal _ _ _ f w2 Ext _
      refine og_call (P := Try.prog) _ _ _ #[f 8, f 10] Try.func100 (by kernel_rfl) (by kernel_rfl) rfl rfl (by kernel_rfl) ?_
      rw [q18, q20]
      refine (rless_calls d2 d1 _).mono ?_
      rintro e w' ⟨rfl, h2⟩
      exact ⟨_, rfl, h2, congrArg (Value.int .i64) Hy.out⟩
    case o12 =>
      intro f w2 hG hp hl
      have hE : Ext w1 w2 := hG
      have hS := hE.size
      have q16 : f 6 = .int .i64 x := tellV hp 0 6 rfl rfl (fun h => by cases h)
      simp only [OpGoal]
      go_simp
      exact ⟨_, rfl, Ext.refl _, rfl⟩
    case o13 =>
      intro f w2 hG hp hl
      have hE : Ext w1 w2 := hG
      have hS := hE.size
      have q21 : f 11 = .int .i64 y := tellV hp 0 11 rfl rfl (fun h => by cases h)
      simp only [OpGoal]
      go_simp
      exact ⟨_, rfl, Ext.refl _, rfl⟩
  · intro f w2 hG hp
    have hE : Ext w1 w2 := ChgS.nil hG
    have q7 : f 12 = .int .i64 x := endV hp 12 (by decide) rfl (fun h => by cases h)
    try simp only [q7]
    have q8 : f 13 = .int .i64 y := endV hp 13 (by decide) rfl (fun h => by cases h)
    try simp only [q8]
    clear hp
    have B1 := b1.ext hE
    have B2 := b2.ext hE
    have E2 := e1.trans hE
    have hc0 := B1.cell 0
    have hd0 := B2.cell 0
    cases best with
    | true =>
      have hq : ordV true = 0 := rfl
      rw [hq]
      have hfin := Lib.hid (Hres.out x y rfl rfl)
      by_cases h1 : x = 0
      · by_cases h2 : y = 0
        · have hfin := Lib.hid (show r = z by rw [hfin.out, if_neg (by simp [h1]), if_neg (by simp [h2])])
          go_wp2
          go_ret
          exact ⟨by rw [hfin.out, ← Hz.out]; rfl, E2⟩
        · have hfin := Lib.hid (show r = decide (y < 0) by rw [hfin.out, if_neg (by simp [h1]), if_pos h2])
          go_wp2
          go_ret
          exact ⟨by rw [hfin.out]; rfl, E2⟩
      · have hfin := Lib.hid (show r = decide (x < 0) by rw [hfin.out, if_pos h1])
        go_wp2
        go_ret
        exact ⟨by rw [hfin.out]; rfl, E2⟩
    | false =>
      have hq : ordV false = 1 := rfl
      rw [hq]
      have hfin := Lib.hid (Hres.out y x rfl rfl)
      by_cases h1 : y = 0
      · by_cases h2 : x = 0
        · have hfin := Lib.hid (show r = z by rw [hfin.out, if_neg (by simp [h1]), if_neg (by simp [h2])])
          go_wp2
          go_ret
          exact ⟨by rw [hfin.out, ← Hz.out]; rfl, E2⟩
        · have hfin := Lib.hid (show r = decide (x < 0) by rw [hfin.out, if_neg (by simp [h1]), if_pos h2])
          go_wp2
          go_ret
          exact ⟨by rw [hfin.out]; rfl, E2⟩
      · have hfin := Lib.hid (show r = decide (y < 0) by rw [hfin.out, if_pos h1])
        go_wp2
        go_ret
        exact ⟨by rw [hfin.out]; rfl, E2⟩

set_option maxRecDepth 100000 in
set_option maxHeartbeats 1000000 in
theorem whole20_calls (n : Int) (w : World) (h0 : -9223372036854775808 ≤ n) (h1 : n ≤ 9223372036854775807) :
    Calls Try.prog 97 #[.int .i64 n] w fun e w' => ∃ v', e = .returned v' ∧ FrQ w.heap.size w' v' (n : Rat) ∧ Ext w w' := by
  have sn := szD_int n
  have tn := szT_small (z := n) (by omega)
  go_enter Try.func97, Try.ntmps97
  obtain ⟨w1, hw1, e1, b1, s1⟩ := alloc1 w #[.bool false, .slice none 0 0, .slice none 0 0] 28
  go_wp2_with fail
  rw [← hw1]
  refine (rqsmall3_calls n _ h0 h1).mono ?_
  rintro e w2 ⟨v2, rfl, q2, e2⟩
  go_wp2_with fail
  refine (rqto3_calls _ (n : Rat) _ q2.cq (by omega)).mono ?_
  rintro e w5 ⟨v5, rfl, q5, e5⟩
  obtain ⟨s', t', rfl, hn, hm⟩ := q5
  obtain ⟨ad5, cap5, rfl⟩ := hn.slice
  obtain ⟨ad6, cap6, rfl⟩ := hm.slice
  have Hn5 := Lib.hid hn
  have Hm5 := Lib.hid hm
  have E25 := e2.trans e5
  have hsz := e2.size
  clear hn hm
  have hb := b1.ext E25
  have hc0 := hb.cell 0
  have hc1 := hb.cell 1
  have hc2 := hb.cell 2
  have hf0 := hb.free 0
  have hf1 := hb.free 1
  have hf2 := hb.free 2
  go_wp2
  refine ret_box 2 28 w.heap.size 28 _ _ (by kernel_rfl) rfl (((hb.set 0 _).set 1 _).set 2 _) Try.underlying28 rfl (by kernel_rfl) rfl ?_
  exact ⟨_, rfl, ⟨_, _, rfl, (Hn5.out.chg (Chg.trans (Chg.trans (Chg.setCell _ w.heap.size 0 _) (Chg.setCell _ w.heap.size 1 _)) (Chg.setCell _ w.heap.size 2 _)) (by omega)).mono (by omega), (Hm5.out.chg (Chg.trans (Chg.trans (Chg.setCell _ w.heap.size 0 _) (Chg.setCell _ w.heap.size 1 _)) (Chg.setCell _ w.heap.size 2 _)) (by omega)).mono (by omega)⟩, (e1.trans E25).step (Chg.trans (Chg.trans (Chg.setCell _ w.heap.size 0 _) (Chg.setCell _ w.heap.size 1 _)) (Chg.setCell _ w.heap.size 2 _)) (by omega)⟩
end Go.Proofs.Ytkcnnlhaiahpbaa

/-
  The first node taken out.
-/
namespace Go.Proofs.Ytkcnnlhaiahpbaa
open Go.RowKit
set_option linter.unusedVariables false
set_option linter.unusedSimpArgs false

set_option maxRecDepth 100000 in
set_option maxHeartbeats 1000000 in
/-- ONE NODE IS LAID at a place of the list, in a region that draws its order. -/
theorem wp_region_set {P : Program} {id : Nat} {l : List Oper} {Q : Exit → Act → World → Prop} {tmps : Array Value} {df : List Deferred} {w : World} {fr : (Nat → Value) → Array Value}
    (g N i s1 : Nat) (rest vs : List Value) (vb : Value) (L : List (PP w.heap.size)) (lates : List (Nat × Nat × Nat)) (pre : List Nat)
    (hm : P.follows .mixedOrders = true) (hok : (regOk l.toArray tmps.size && lateOk l.toArray lates && ([stN g N rest vs s1 i vb].map (·.s)).all fun s => ancOk l.toArray [s] (pre.filter (· != s))) = true)
    (hfr : ∀ f, fillR l.toArray tmps f = fr f)
    (hN : vs.length = N) (hH : HoldN g rest w vs) (hi : i < N) (hL : ∀ p ∈ L, p.c = false)
    (hstep : OwesM P fr df w [stN g N rest vs s1 i vb] (inN g N rest vs i i) L lates tmps pre l 0)
    (hend : ∀ f w1, Chg g w w1 → HoldN g rest w1 (vs.set i vb) → AllPosts (postM [stN g N rest vs s1 i vb] L) f w1 l.length 0 → Q .normal ⟨fr f, df⟩ w1)
    (hs1 : s1 < l.length) :
    (Code.region id l.toArray true).wp P Q ⟨tmps, df⟩ w := by
  have hlt := blk_lt hH.2
  have hmem : ∀ x ∈ [stN g N rest vs s1 i vb], x = stN g N rest vs s1 i vb := fun x hx => by simpa using hx
  have hat1 : smAt [stN g N rest vs s1 i vb] s1 = some (stN g N rest vs s1 i vb) := by simp [smAt, stN]
  have getset : ∀ (us : List Value) (p q : Nat) (v : Value), q ≠ p → (us.set p v)[q]? = us[q]? := fun us p q v h => List.getElem?_set_ne (by omega)
  refine wp_region_mut [stN g N rest vs s1 i vb] (inN g N rest vs i i) L lates pre hm hok hfr ?_ ?_ hL ⟨vs, hN, hH, fun _ _ _ => rfl⟩ ?_ ?_ ?_ ?_ ?_ ?_ ?_ ?_ hstep ?_
  · intro x hx
    rw [hmem x hx]
    exact hlt
  · intro x hx
    rw [hmem x hx]
    exact hat1
  · rintro w1 w2 he ⟨us, h1, h2, h3⟩
    exact ⟨us, h1, h2.ext he, h3⟩
  · intro x hx w1 w2 hch hR hI
    obtain ⟨us, h1, h2, h3⟩ := hI
    have hx2 := hmem x hx
    subst hx2
    exact ⟨_, by rw [List.length_set]; exact h1, hR us h1 h2, fun j hj hj2 => by rw [getset _ _ _ _ hj]; exact h3 j hj hj2⟩
  · intro x hx v w1 w2 he hF
    have hx2 := hmem x hx
    subst hx2
    obtain ⟨us, h1, h2, h3⟩ := hF
    exact ⟨us, h1, h2.ext he, h3⟩
  · intro x hx y hy hne v w1 w2 hch hR hF
    exact absurd ((hmem x hx).trans (hmem y hy).symm) (fun h => hne (by rw [h]))
  · intro x hx
    rw [hmem x hx]
    exact ⟨vs, hN, hH, rfl⟩
  · intro x hx w1 w2 _ he hU
    have hx2 := hmem x hx
    subst hx2
    obtain ⟨us, h1, h2, h3⟩ := hU
    exact ⟨us, h1, h2.ext he, h3⟩
  · intro x hx y hy hne w1 w2 _ hch hR hU
    exact absurd ((hmem x hx).trans (hmem y hy).symm) (fun h => hne (by rw [h]))
  · rintro w1 hG ⟨us, h1, h2, h3⟩ hU
    obtain ⟨us1, a1, a2, a3⟩ := hU (stN g N rest vs s1 i vb) (by simp)
    have e1 := a2.inj h2 (by omega)
    subst e1
    have huv : us1 = vs := by
      apply List.ext_getElem?
      intro j
      by_cases hj : j = i
      · rw [hj]; exact a3
      · exact h3 j hj hj
    subst huv
    refine ⟨hG.1, hG.2.1, hG.2.2.1, hG.2.2.2.1, fun j hj _ => ?_⟩
    by_cases hjg : j = g
    · rw [hjg]
      exact h2.2.trans hH.2.symm
    · exact hG.2.2.2.2 j hj (by simp [stN]; exact hjg)
  · intro f w1 hG hI hp
    obtain ⟨us, h1, h2, h3⟩ := hI
    obtain ⟨us1, a1, a2, a3⟩ := endMS hp s1 hs1 hat1
    have e1 := a2.inj h2 (by omega)
    subst e1
    have huv : us1 = vs.set i vb := by
      apply List.ext_getElem?
      intro j
      by_cases hj : j = i
      · rw [hj, List.getElem?_set_self (by omega)]
        exact a3
      · rw [getset _ _ _ _ hj]
        exact h3 j hj hj
    refine hend f w1 ⟨hG.1, hG.2.1, hG.2.2.1, hG.2.2.2.1, fun j hj hne => hG.2.2.2.2 j hj (by simp [stN]; exact fun h => hne (by rw [h]))⟩ (huv ▸ h2) hp

set_option maxRecDepth 100000 in
set_option maxHeartbeats 4000000 in
set_option maxRecDepth 100000 in
set_option maxHeartbeats 1000000 in
/-- Nothing waits: nothing sinks. -/
theorem sink0_calls (p : Nat) (o : Value) (ad : Option Addr) (cap : Nat) (w : World) (hp : Bx 123 w p #[o, .slice ad 0 cap]) :
    Calls Try.prog 99 #[.pointer (some ⟨p, 0, none⟩), .int .i64 0] w fun e w' => e = .returned (.tuple #[]) ∧ Ext w w' := by
  have hix0 := idx2_0
  have hix1 := idx2_1
  go_enter Try.func99, Try.ntmps99
  go_wp2_with fail
  go_loopw [1] (fun s1 wr => s1 = .int .i64 0 ∧ Ext w wr) (fun s1 _ => 0)
  case atStart => exact ⟨rfl, Ext.refl _⟩
  case round =>
    obtain ⟨rfl, hX0⟩ := hrel
    obtain ⟨wo, hwo⟩ : ∃ wo, wo = wr := ⟨wr, rfl⟩
    subst hwo
    go_wp2_with fail
    go_loopw [4, 15] (fun s4 s15 wq => ∃ (m : Nat), s15 = .int .i64 (m : Int) ∧ s4 = .int .i64 0 ∧ m ≤ 2 ∧ Ext w wq) (fun _ s15 _ => (2 - intOf s15).toNat)
    case atStart => exact ⟨0, rfl, rfl, by omega, hX0⟩
    case round =>
      obtain ⟨m, rfl, rfl, hm, hX⟩ := hrel
      have P2 := hp.ext hX
      rcases (show m = 0 ∨ m = 1 ∨ m = 2 by omega) with rfl | rfl | rfl
      · go_wp2_with fail
        refine wp_region_puts [] [PP.val (.int .i64 1), PP.val (.pointer (some ⟨p, 0, none⟩)), PP.val (.pointer (some ⟨p, 0, none⟩)), PP.val (.pointer (some ⟨p, 1, none⟩)), PP.val (.slice ad 0 cap), PP.val (.int .i64 0), PP.val (.bool false), PP.val (.bool false), PP.any, PP.any, PP.any, PP.any, PP.any, PP.any, PP.any, PP.any, PP.any, PP.any, PP.any, PP.any, PP.any, PP.any, PP.any, PP.any, PP.val (.bool false)] [] [0, 1, 2, 3, 4, 5, 6, 7, 8, 9, 10, 11, 12, 13, 14, 15, 16, 17, 18, 19, 20, 21, 22, 23, 24]
          (by kernel_rfl) (by kernel_rfl) (fun f => (by simp only [fillR, fillL, List.setIfInBounds_toArray, List.set_cons_succ, List.set_cons_zero, Nat.reduceAdd]; rfl)) ?_ ?_ ?_ ?_ ?_
        · intro x hx; cases hx
        · intro x hx; cases hx
        · intro x hx; cases hx
        · refine ⟨?o0, ?o1, ?o2, ?o3, ?o4, ?o5, ?o6, ?o7, ?o8, ?o9, ?o10, ?o11, ?o12, ?o13, ?o14, ?o15, ?o16, ?o17, ?o18, ?o19, ?o20, ?o21, ?o22, ?o23, ?o24, trivial⟩
          case o0 =>
            intro f w2 hG hp hl
            have hE : Ext wr w2 := hG
            have hS := hE.size
            simp only [OpGoal]
            go_simp
            exact ⟨_, rfl, Ext.refl _, rfl⟩
          case o1 =>
            intro f w2 hG hp hl
            have hE : Ext wr w2 := hG
            have hS := hE.size
            simp only [OpGoal]
            go_simp
            exact ⟨_, rfl, Ext.refl _, rfl⟩
          case o2 =>
            intro f w2 hG hp hl
            have hE : Ext wr w2 := hG
            have hS := hE.size
            have q19 : f 1 = .pointer (some ⟨p, 0, none⟩) := tellV hp 0 1 rfl rfl (fun h => by cases h)
            simp only [OpGoal]
            go_simp
            exact ⟨_, rfl, Ext.refl _, rfl⟩
          case o3 =>
            intro f w2 hG hp hl
            have hE : Ext wr w2 := hG
            have hS := hE.size
            have q20 : f 2 = .pointer (some ⟨p, 0, none⟩) := tellV hp 0 2 rfl rfl (fun h => by cases h)
            simp only [OpGoal]
            go_simp
            exact ⟨_, rfl, Ext.refl _, rfl⟩
          case o4 =>
            intro f w2 hG hp hl
            have hE : Ext wr w2 := hG
            have hS := hE.size
            have q21 : f 3 = .pointer (some ⟨p, 1, none⟩) := tellV hp 0 3 rfl rfl (fun h => by cases h)
            have hcell := (P2.ext hE).cell 1
            simp only [OpGoal]
            go_simp
            exact ⟨_, rfl, Ext.refl _, rfl⟩
          case o5 =>
            intro f w2 hG hp hl
            have hE : Ext wr w2 := hG
            have hS := hE.size
            have q22 : f 4 = .slice ad 0 cap := tellV hp 0 4 rfl rfl (fun h => by cases h)
            simp only [OpGoal]
            go_simp
            exact ⟨_, rfl, Ext.refl _, rfl⟩
          case o6 =>
            intro f w2 hG hp hl
            have hE : Ext wr w2 := hG
            have hS := hE.size
            have q18 : f 0 = .int .i64 1 := tellV hp 0 0 rfl rfl (fun h => by cases h)
            have q23 : f 5 = .int .i64 0 := tellV hp 1 5 rfl rfl (fun h => by cases h)
            simp only [OpGoal]
            go_simp
            exact ⟨_, rfl, Ext.refl _, rfl⟩
          case o7 =>
            intro f w2 hG hp hl
            have hE : Ext wr w2 := hG
            have hS := hE.size
            have q24 : f 6 = .bool false := tellV hp 0 6 rfl rfl (fun h => by cases h)
            simp only [OpGoal]
            go_simp
            exact ⟨_, rfl, Ext.refl _, rfl⟩
          case o8 =>
            intro f w2 hG hp hl
            have hE : Ext wr w2 := hG
            have hS := hE.size
            have qg : f 7 = .bool false := tellV hp 0 7 rfl rfl (fun h => by cases h)
            exact og_skip rfl qg (by decide) trivial
          case o9 =>
            intro f w2 hG hp hl
            have hE : Ext wr w2 := hG
            have hS := hE.size
            have qg : f 7 = .bool false := tellV hp 0 7 rfl rfl (fun h => by cases h)
            exact og_skip rfl qg (by decide) trivial
          case o10 =>
            intro f w2 hG hp hl
            have hE : Ext wr w2 := hG
            have hS := hE.size
            have qg : f 7 = .bool false := tellV hp 1 7 rfl rfl (fun h => by cases h)
            exact og_skip rfl qg (by decide) trivial
          case o11 =>
            intro f w2 hG hp hl
            have hE : Ext wr w2 := hG
            have hS := hE.size
            have qg : f 7 = .bool false := tellV hp 1 7 rfl rfl (fun h => by cases h)
            exact og_skip rfl qg (by decide) trivial
          case o12 =>
            intro f w2 hG hp hl
            have hE : Ext wr w2 := hG
            have hS := hE.size
            have qg : f 7 = .bool false := tellV hp 1 7 rfl rfl (fun h => by cases h)
            exact og_skip rfl qg (by decide) trivial
          case o13 =>
            intro f w2 hG hp hl
            have hE : Ext wr w2 := hG
            have hS := hE.size
            have qg : f 7 = .bool false := tellV hp 0 7 rfl rfl (fun h => by cases h)
            exact og_skip rfl qg (by decide) trivial
          case o14 =>
            intro f w2 hG hp hl
            have hE : Ext wr w2 := hG
            have hS := hE.size
            have qg : f 7 = .bool false := tellV hp 2 7 rfl rfl (fun h => by cases h)
            exact og_skip rfl qg (by decide) trivial
          case o15 =>
            intro f w2 hG hp hl
            have hE : Ext wr w2 := hG
            have hS := hE.size
            have qg : f 7 = .bool false := tellV hp 1 7 rfl rfl (fun h => by cases h)
            exact og_skip rfl qg (by decide) trivial
          case o16 =>
            intro f w2 hG hp hl
            have hE : Ext wr w2 := hG
            have hS := hE.size
            have qg : f 7 = .bool false := tellV hp 0 7 rfl rfl (fun h => by cases h)
            exact og_skip rfl qg (by decide) trivial
          case o17 =>
            intro f w2 hG hp hl
            have hE : Ext wr w2 := hG
            have hS := hE.size
            have qg : f 7 = .bool false := tellV hp 1 7 rfl rfl (fun h => by cases h)
            exact og_skip rfl qg (by decide) trivial
          case o18 =>
            intro f w2 hG hp hl
            have hE : Ext wr w2 := hG
            have hS := hE.size
            have qg : f 7 = .bool false := tellV hp 1 7 rfl rfl (fun h => by cases h)
            exact og_skip rfl qg (by decide) trivial
          case o19 =>
            intro f w2 hG hp hl
            have hE : Ext wr w2 := hG
            have hS := hE.size
            have qg : f 7 = .bool false := tellV hp 1 7 rfl rfl (fun h => by cases h)
            exact og_skip rfl qg (by decide) trivial
          case o20 =>
            intro f w2 hG hp hl
            have hE : Ext wr w2 := hG
            have hS := hE.size
            have qg : f 7 = .bool false := tellV hp 0 7 rfl rfl (fun h => by cases h)
            exact og_skip rfl qg (by decide) trivial
          case o21 =>
            intro f w2 hG hp hl
            have hE : Ext wr w2 := hG
            have hS := hE.size
            have qg : f 7 = .bool false := tellV hp 2 7 rfl rfl (fun h => by cases h)
            exact og_skip rfl qg (by decide) trivial
          case o22 =>
            intro f w2 hG hp hl
            have hE : Ext wr w2 := hG
            have hS := hE.size
            have qg : f 7 = .bool false := tellV hp 1 7 rfl rfl (fun h => by cases h)
            exact og_skip rfl qg (by decide) trivial
          case o23 =>
            intro f w2 hG hp hl
            have hE : Ext wr w2 := hG
            have hS := hE.size
            have qg : f 7 = .bool false := tellV hp 3 7 rfl rfl (fun h => by cases h)
            exact og_skip rfl qg (by decide) trivial
          case o24 =>
            intro f w2 hG hp hl
            have hE : Ext wr w2 := hG
            have hS := hE.size
            have q25 : f 7 = .bool false := tellV hp 0 7 rfl rfl (fun h => by cases h)
            simp only [OpGoal]
            go_simp
            exact ⟨_, rfl, Ext.refl _, rfl⟩
        · intro f w2 hG hp
          have hE : Ext wr w2 := ChgS.nil hG
          have q42 : f 24 = .bool false := endV hp 24 (by decide) rfl (fun h => by cases h)
          try simp only [q42]
          clear hp
          go_wp2
          go_roundw
          case rel => exact ⟨1, rfl, rfl, by omega, hX.trans hE⟩
          case measure => simp [intOf]
      · go_wp2_with fail
        refine wp_region_puts [] [PP.val (.int .i64 2), PP.val (.pointer (some ⟨p, 0, none⟩)), PP.val (.pointer (some ⟨p, 0, none⟩)), PP.val (.pointer (some ⟨p, 1, none⟩)), PP.val (.slice ad 0 cap), PP.val (.int .i64 0), PP.val (.bool false), PP.val (.bool false), PP.any, PP.any, PP.any, PP.any, PP.any, PP.any, PP.any, PP.any, PP.any, PP.any, PP.any, PP.any, PP.any, PP.any, PP.any, PP.any, PP.val (.bool false)] [] [0, 1, 2, 3, 4, 5, 6, 7, 8, 9, 10, 11, 12, 13, 14, 15, 16, 17, 18, 19, 20, 21, 22, 23, 24]
          (by kernel_rfl) (by kernel_rfl) (fun f => (by simp only [fillR, fillL, List.setIfInBounds_toArray, List.set_cons_succ, List.set_cons_zero, Nat.reduceAdd]; rfl)) ?_ ?_ ?_ ?_ ?_
        · intro x hx; cases hx
        · intro x hx; cases hx
        · intro x hx; cases hx
        · refine ⟨?o0, ?o1, ?o2, ?o3, ?o4, ?o5, ?o6, ?o7, ?o8, ?o9, ?o10, ?o11, ?o12, ?o13, ?o14, ?o15, ?o16, ?o17, ?o18, ?o19, ?o20, ?o21, ?o22, ?o23, ?o24, trivial⟩
          case o0 =>
            intro f w2 hG hp hl
            have hE : Ext wr w2 := hG
            have hS := hE.size
            simp only [OpGoal]
            go_simp
            exact ⟨_, rfl, Ext.refl _, rfl⟩
          case o1 =>
            intro f w2 hG hp hl
            have hE : Ext wr w2 := hG
            have hS := hE.size
            simp only [OpGoal]
            go_simp
            exact ⟨_, rfl, Ext.refl _, rfl⟩
          case o2 =>
            intro f w2 hG hp hl
            have hE : Ext wr w2 := hG
            have hS := hE.size
            have q19 : f 1 = .pointer (some ⟨p, 0, none⟩) := tellV hp 0 1 rfl rfl (fun h => by cases h)
            simp only [OpGoal]
            go_simp
            exact ⟨_, rfl, Ext.refl _, rfl⟩
          case o3 =>
            intro f w2 hG hp hl
            have hE : Ext wr w2 := hG
            have hS := hE.size
            have q20 : f 2 = .pointer (some ⟨p, 0, none⟩) := tellV hp 0 2 rfl rfl (fun h => by cases h)
            simp only [OpGoal]
            go_simp
            exact ⟨_, rfl, Ext.refl _, rfl⟩
          case o4 =>
            intro f w2 hG hp hl
            have hE : Ext wr w2 := hG
            have hS := hE.size
            have q21 : f 3 = .pointer (some ⟨p, 1, none⟩) := tellV hp 0 3 rfl rfl (fun h => by cases h)
            have hcell := (P2.ext hE).cell 1
            simp only [OpGoal]
            go_simp
            exact ⟨_, rfl, Ext.refl _, rfl⟩
          case o5 =>
            intro f w2 hG hp hl
            have hE : Ext wr w2 := hG
            have hS := hE.size
            have q22 : f 4 = .slice ad 0 cap := tellV hp 0 4 rfl rfl (fun h => by cases h)
            simp only [OpGoal]
            go_simp
            exact ⟨_, rfl, Ext.refl _, rfl⟩
          case o6 =>
            intro f w2 hG hp hl
            have hE : Ext wr w2 := hG
            have hS := hE.size
            have q18 : f 0 = .int .i64 2 := tellV hp 0 0 rfl rfl (fun h => by cases h)
            have q23 : f 5 = .int .i64 0 := tellV hp 1 5 rfl rfl (fun h => by cases h)
            simp only [OpGoal]
            go_simp
            exact ⟨_, rfl, Ext.refl _, rfl⟩
          case o7 =>
            intro f w2 hG hp hl
            have hE : Ext wr w2 := hG
            have hS := hE.size
            have q24 : f 6 = .bool false := tellV hp 0 6 rfl rfl (fun h => by cases h)
            simp only [OpGoal]
            go_simp
            exact ⟨_, rfl, Ext.refl _, rfl⟩
          case o8 =>
            intro f w2 hG hp hl
            have hE : Ext wr w2 := hG
            have hS := hE.size
            have qg : f 7 = .bool false := tellV hp 0 7 rfl rfl (fun h => by cases h)
            exact og_skip rfl qg (by decide) trivial
          case o9 =>
            intro f w2 hG hp hl
            have hE : Ext wr w2 := hG
            have hS := hE.size
            have qg : f 7 = .bool false := tellV hp 0 7 rfl rfl (fun h => by cases h)
            exact og_skip rfl qg (by decide) trivial
          case o10 =>
            intro f w2 hG hp hl
            have hE : Ext wr w2 := hG
            have hS := hE.size
            have qg : f 7 = .bool false := tellV hp 1 7 rfl rfl (fun h => by cases h)
            exact og_skip rfl qg (by decide) trivial
          case o11 =>
            intro f w2 hG hp hl
            have hE : Ext wr w2 := hG
            have hS := hE.size
            have qg : f 7 = .bool false := tellV hp 1 7 rfl rfl (fun h => by cases h)
            exact og_skip rfl qg (by decide) trivial
          case o12 =>
            intro f w2 hG hp hl
            have hE : Ext wr w2 := hG
            have hS := hE.size
            have qg : f 7 = .bool false := tellV hp 1 7 rfl rfl (fun h => by cases h)
            exact og_skip rfl qg (by decide) trivial
          case o13 =>
            intro f w2 hG hp hl
            have hE : Ext wr w2 := hG
            have hS := hE.size
            have qg : f 7 = .bool false := tellV hp 0 7 rfl rfl (fun h => by cases h)
            exact og_skip rfl qg (by decide) trivial
          case o14 =>
            intro f w2 hG hp hl
            have hE : Ext wr w2 := hG
            have hS := hE.size
            have qg : f 7 = .bool false := tellV hp 2 7 rfl rfl (fun h => by cases h)
            exact og_skip rfl qg (by decide) trivial
          case o15 =>
            intro f w2 hG hp hl
            have hE : Ext wr w2 := hG
            have hS := hE.size
            have qg : f 7 = .bool false := tellV hp 1 7 rfl rfl (fun h => by cases h)
            exact og_skip rfl qg (by decide) trivial
          case o16 =>
            intro f w2 hG hp hl
            have hE : Ext wr w2 := hG
            have hS := hE.size
            have qg : f 7 = .bool false := tellV hp 0 7 rfl rfl (fun h => by cases h)
            exact og_skip rfl qg (by decide) trivial
          case o17 =>
            intro f w2 hG hp hl
            have hE : Ext wr w2 := hG
            have hS := hE.size
            have qg : f 7 = .bool false := tellV hp 1 7 rfl rfl (fun h => by cases h)
            exact og_skip rfl qg (by decide) trivial
          case o18 =>
            intro f w2 hG hp hl
            have hE : Ext wr w2 := hG
            have hS := hE.size
            have qg : f 7 = .bool false := tellV hp 1 7 rfl rfl (fun h => by cases h)
            exact og_skip rfl qg (by decide) trivial
          case o19 =>
            intro f w2 hG hp hl
            have hE : Ext wr w2 := hG
            have hS := hE.size
            have qg : f 7 = .bool false := tellV hp 1 7 rfl rfl (fun h => by cases h)
            exact og_skip rfl qg (by decide) trivial
          case o20 =>
            intro f w2 hG hp hl
            have hE : Ext wr w2 := hG
            have hS := hE.size
            have qg : f 7 = .bool false := tellV hp 0 7 rfl rfl (fun h => by cases h)
            exact og_skip rfl qg (by decide) trivial
          case o21 =>
            intro f w2 hG hp hl
            have hE : Ext wr w2 := hG
            have hS := hE.size
            have qg : f 7 = .bool false := tellV hp 2 7 rfl rfl (fun h => by cases h)
            exact og_skip rfl qg (by decide) trivial
          case o22 =>
            intro f w2 hG hp hl
            have hE : Ext wr w2 := hG
            have hS := hE.size
            have qg : f 7 = .bool false := tellV hp 1 7 rfl rfl (fun h => by cases h)
            exact og_skip rfl qg (by decide) trivial
          case o23 =>
            intro f w2 hG hp hl
            have hE : Ext wr w2 := hG
            have hS := hE.size
            have qg : f 7 = .bool false := tellV hp 3 7 rfl rfl (fun h => by cases h)
            exact og_skip rfl qg (by decide) trivial
          case o24 =>
            intro f w2 hG hp hl
            have hE : Ext wr w2 := hG
            have hS := hE.size
            have q25 : f 7 = .bool false := tellV hp 0 7 rfl rfl (fun h => by cases h)
            simp only [OpGoal]
            go_simp
            exact ⟨_, rfl, Ext.refl _, rfl⟩
        · intro f w2 hG hp
          have hE : Ext wr w2 := ChgS.nil hG
          have q42 : f 24 = .bool false := endV hp 24 (by decide) rfl (fun h => by cases h)
          try simp only [q42]
          clear hp
          go_wp2
          go_roundw
          case rel => exact ⟨2, rfl, rfl, by omega, hX.trans hE⟩
          case measure => simp [intOf]
      · go_wp2
        refine bodyPost_ret (results_none (by kernel_rfl) _ _ _) rfl ?_
        exact ⟨rfl, hX⟩

end Go.Proofs.Ytkcnnlhaiahpbaa

/-
  The first node taken out: of an empty queue, and of another one.
-/
namespace Go.Proofs.Ytkcnnlhaiahpbaa
open Go.RowKit
set_option linter.unusedVariables false
set_option linter.unusedSimpArgs false

def zeroNd : Array Value := #[.int .i64 0, .int .i64 0, .bool false, .slice none 0 0, .slice none 0 0]
set_option maxRecDepth 100000 in
set_option maxHeartbeats 2000000 in
theorem pop_none (p : Nat) (o : Value) (ad : Option Addr) (cap : Nat) (w : World) (hp : Bx 123 w p #[o, .slice ad 0 cap]) :
    Calls Try.prog 59 #[.pointer (some ⟨p, 0, none⟩)] w fun e w' => e = .returned (.tuple #[.agg #[.int .i64 0, .int .i64 0, .bool false, .slice none 0 0, .slice none 0 0], .bool false]) ∧ Ext w w' := by
  obtain ⟨w1, hw1, e1, b1, s1⟩ := alloc1 w #[.int .i64 0, .int .i64 0, .bool false, .slice none 0 0, .slice none 0 0] 74
  have hlt := hp.lt
  have hc : (w.alloc (.cells #[.int .i64 0, .int .i64 0, .bool false, .slice none 0 0, .slice none 0 0] 74)).cell? ⟨p, 1, none⟩ = some (.slice ad 0 cap) := by
    rw [← hw1]
    exact (hp.ext e1).cell 1
  go_enter Try.func59, Try.ntmps59
  go_wp2
  rw [← hw1]
  refine ret_box2 2 3 74 w.heap.size 74 _ _ _ (by kernel_rfl) rfl rfl b1 Try.underlying74 rfl (by kernel_rfl) rfl ?_
  exact ⟨rfl, e1⟩

set_option maxRecDepth 100000 in
set_option maxHeartbeats 1000000 in
theorem pop_perm {d : Array Nd} {m : Nat} (h : d.size = m + 1) : (d[0]! :: ((d.set! 0 d[m]!).pop).toList).Perm d.toList := by
  obtain ⟨l⟩ := d
  have hl : l.length = m + 1 := h
  have h1 : ((#[] ++ l.toArray : Array Nd).set! 0 (l.toArray)[m]!).pop.toList = (l.set 0 (l[m]'(by omega))).dropLast := by
    have : (l.toArray)[m]! = l[m]'(by omega) := by rw [getElem!_pos _ m (by simp; omega)]; rfl
    rw [this]
    simp [Array.set!_eq_setIfInBounds]
  have h2 : (#[] ++ l.toArray : Array Nd) = l.toArray := by simp
  rw [h2] at h1
  have h3 : (Array.mk l)[0]! = l[0]'(by omega) := by rw [getElem!_pos _ 0 (by show 0 < l.length; omega)]; rfl
  show ((Array.mk l)[0]! :: (((Array.mk l).set! 0 (Array.mk l)[m]!).pop).toList).Perm l
  rw [h3, h1]
  cases l with
  | nil => simp at hl
  | cons a t =>
    rcases t with _ | ⟨b, t⟩
    · have : m = 0 := by simpa using hl.symm
      subst this
      simp
    · have hm : m = t.length + 1 := by simp at hl; omega
      subst hm
      have e1 : (a :: b :: t)[t.length + 1]'(by simp) = (b :: t).getLast (by simp) := by
        rw [List.getLast_eq_getElem]
        rfl
      rw [e1]
      show List.Perm (a :: ((b :: t).getLast (by simp) :: (b :: t)).dropLast) (a :: b :: t)
      refine List.Perm.cons _ ?_
      rw [List.dropLast_cons_of_ne_nil (by simp)]
      have e2 := List.dropLast_concat_getLast (l := b :: t) (by simp)
      conv => rhs; rw [← e2]
      exact (List.perm_append_singleton _ _).symm

set_option maxRecDepth 100000 in
set_option maxHeartbeats 1000000 in
theorem Nds.put {B k g m : Nat} {rest : List Value} {w w' : World} {vs : List Value} {d : Array Nd} {vm : Value} (h : Nds B k g rest w vs d) (hc : Chg g w w') (hm : m < d.size) (hvm : vs[m]? = some vm) (hH : HoldN g rest w' (vs.set 0 vm)) : Nds B k g rest w' (vs.set 0 vm) (d.set! 0 d[m]!) := by
  refine ⟨by rw [List.length_set, Array.size_set!]; exact h.1, hH, fun i v hi => ?_⟩
  have tr : ∀ {u : Value} {x : Nd}, NdV B k w u x → NdV B k w' u x := fun hu => hu.chgN hc h.2.1.2 hH.2 (by decide) (by decide)
  have hil : i < d.size := by
    have := (List.getElem?_eq_some_iff.1 hi).1
    rw [List.length_set, h.1] at this
    exact this
  by_cases h0 : i = 0
  · subst h0
    rw [List.getElem?_set_self (by rw [h.1]; exact hil)] at hi
    cases hi
    rw [getElem!_pos _ 0 (by rw [Array.size_set!]; exact hil)]
    simp only [Array.set!_eq_setIfInBounds, Array.getElem_setIfInBounds_self]
    exact tr (h.2.2 m _ hvm)
  · rw [List.getElem?_set_ne (Ne.symm h0)] at hi
    rw [getElem!_pos _ i (by rw [Array.size_set!]; exact hil)]
    simp only [Array.set!_eq_setIfInBounds]
    rw [Array.getElem_setIfInBounds_ne (by omega) (by omega), ← getElem!_pos d i hil]
    exact tr (h.2.2 i _ hi)
set_option maxRecDepth 100000 in
set_option maxHeartbeats 1000000 in
theorem Nds.drop {B k g m : Nat} {rest : List Value} {w : World} {vs : List Value} {d : Array Nd} (h : Nds B k g rest w vs d) (hm : d.size = m + 1) : ∃ vs' rest', Nds B k g rest' w vs' d.pop ∧ vs'.length * 5 + rest'.length = vs.length * 5 + rest.length := by
  have hl : vs.length = m + 1 := h.1.trans hm
  have hne : vs ≠ [] := by intro h0; rw [h0] at hl; simp at hl
  have e := List.dropLast_concat_getLast hne
  have hfl : flat vs ++ rest = flat vs.dropLast ++ ((vs.getLast hne).cells.toList ++ rest) := by
    conv => lhs; rw [← e]
    rw [flat_append, List.append_assoc]
    congr 2
    simp [flat]
  have h5l := h.2.1.1.size _ (List.getLast_mem hne)
  refine ⟨vs.dropLast, (vs.getLast hne).cells.toList ++ rest, ⟨?_, ⟨fun v hv => h.2.1.1 v (List.dropLast_subset _ hv), ?_⟩, fun i v hi => ?_⟩, ?_⟩
  · rw [List.length_dropLast, Array.size_pop, h.1]
  · rw [← hfl]
    exact h.2.1.2
  · have hil := (List.getElem?_eq_some_iff.1 hi).1
    rw [List.length_dropLast] at hil
    have hi2 : vs[i]? = some v := by
      rw [← hi, List.getElem?_dropLast, if_pos hil]
    have := h.2.2 i v hi2
    rw [getElem!_pos d i (by rw [← h.1]; omega)] at this
    rw [getElem!_pos d.pop i (by rw [Array.size_pop, ← h.1]; omega), Array.getElem_pop]
    exact this
  · have h6 : (vs.getLast hne).cells.toList.length = 5 := by rw [Array.length_toList]; exact h5l
    rw [List.length_append, List.length_dropLast, h6]
    omega
end Go.Proofs.Ytkcnnlhaiahpbaa

/-
  The first node taken out of a queue that has one.
-/
namespace Go.Proofs.Ytkcnnlhaiahpbaa
open Go.RowKit
set_option linter.unusedVariables false
set_option linter.unusedSimpArgs false

set_option maxRecDepth 100000 in
set_option maxHeartbeats 1000000 in
theorem hold_cell0 {g : Nat} {rest : List Value} {w : World} {vs : List Value} {cs : Array Value} (h : HoldN g rest w vs) (hi : vs[0]? = some (.agg cs)) (j : Nat) : cs[j]? ≠ none → w.cell? ⟨g, j, none⟩ = cs[j]? := by
  intro hj
  obtain ⟨v, hv⟩ := Option.ne_none_iff_exists'.1 hj
  have := h.cell hi j v hv
  rw [Nat.zero_mul, Nat.zero_add] at this
  rw [this, hv]

set_option maxRecDepth 100000 in
set_option maxHeartbeats 1000000 in
theorem Nds.chgP {B k g p : Nat} {rest : List Value} {w w' : World} {vs : List Value} {d : Array Nd} {t : TypeId} {cs cs' : Array Value} (h : Nds B k g rest w vs d) (hc : Chg p w w') (hb : Bx t w p cs) (hb' : Bx t w' p cs') (ht : t ≠ 105) (ht2 : t ≠ 3) (hg : g ≠ p) : Nds B k g rest w' vs d :=
  ⟨h.1, h.2.1.chg hc hg, fun i v hi => (h.2.2 i v hi).chgN hc hb hb' ht ht2⟩
set_option maxRecDepth 100000 in
set_option maxHeartbeats 1000000 in
theorem QHeap.ext {B k : Nat} {w w' : World} {hv : Value} {d : Array Nd} (h : QHeap B k w hv d) (he : Ext w w') : QHeap B k w' hv d := by
  obtain ⟨vs, h1, h2, h3, h4⟩ := h
  exact ⟨vs, h1, h2, ownsRow_ext h3 he, fun i v hi => (h4 i v hi).ext he⟩
set_option maxRecDepth 100000 in
set_option maxHeartbeats 1000000 in
theorem QHeap.chgO {B k g : Nat} {w w' : World} {hv : Value} {d : Array Nd} {t : TypeId} {cs cs' : Array Value} (h : QHeap B k w hv d) (hc : Chg g w w') (hb : Bx t w g cs) (hb' : Bx t w' g cs') (ht : t ≠ 105) (ht2 : t ≠ 3) (hg : hv.ownBlock ≠ some g) : QHeap B k w' hv d := by
  obtain ⟨vs, h1, h2, h3, h4⟩ := h
  exact ⟨vs, h1, h2, h3.kept hc (.inr hg), fun i v hi => (h4 i v hi).chgN hc hb hb' ht ht2⟩
set_option maxRecDepth 100000 in
set_option maxHeartbeats 1000000 in
/-- The heap put right again behind what was laid at its top. -/
theorem sinkP_calls (B k p g cap m : Nat) (best : Bool) (rest vs1 : List Value) (d : Array Nd) (w : World) (hp : Bx 123 w p #[.int .i64 (ordV best), .slice (some ⟨g, 0, none⟩) m cap]) (hd : Nds B k g rest w vs1 (d.set! 0 d[m]!)) (hm : d.size = m + 1)
    (hh : HpFrom best d 0) (hBg : B ≤ g) (hcc : m + 1 ≤ cap) (hcm : cap ≤ 9223372036854775807) (hl : vs1.length * 5 + rest.length = cap * 5) (hk : k ≤ LIM) (hk2 : k ≤ 34359738368) (hn : m ≤ 35184372088832) :
    Calls Try.prog 99 #[.pointer (some ⟨p, 0, none⟩), .int .i64 0] w fun e w' => e = .returned (.tuple #[]) ∧ Chg g w w' ∧ ∃ d', QHeap B k w' (.slice (some ⟨g, 0, none⟩) m cap) d' ∧ HpFrom best d' 0 ∧ (d[0]! :: d'.toList).Perm d.toList ∧ d'.size = m := by
  have hds : (d.set! 0 d[m]!).size = m + 1 := by rw [Array.size_set!, hm]
  obtain ⟨vs', rest', hN, hlen⟩ := hd.drop hds
  have hps : ((d.set! 0 d[m]!).pop).size = m := by rw [Array.size_pop, hds]; rfl
  have hpp := pop_perm hm
  rcases Nat.eq_zero_or_pos m with h0 | h0
  · subst h0
    refine (sink0_calls p _ _ cap w hp).mono ?_
    rintro e w' ⟨rfl, he⟩
    refine ⟨rfl, he.chg g, _, hold_qheap (hN.ext he) hBg hps (by omega) hcm (by omega), ?_, hpp, hps⟩
    intro j hj0 hj
    omega
  · have hpop := hh.pop (by omega)
    rw [show d.size - 1 = m by omega] at hpop
    obtain ⟨d1, hd1⟩ : ∃ d1, d1 = (d.set! 0 d[m]!).pop := ⟨_, rfl⟩
    rw [← hd1] at hN hps hpp hpop
    rw [← hps] at hp
    refine (sink_calls B k p g cap 0 0 best rest' vs' d1 w hp hN hpop (Nat.le_refl _) (by omega) (by omega) hk hk2).mono ?_
    rintro e w' ⟨rfl, hc, vs2, d2, n2, h2, p2, s2⟩
    have hv2 := n2.1
    have hv1 := hN.1
    exact ⟨rfl, hc, d2, hold_qheap n2 hBg (s2.trans hps) (by omega) hcm (by rw [hv2, s2, ← hv1]; omega), h2, (List.Perm.cons _ p2).trans hpp, s2.trans hps⟩

set_option maxRecDepth 100000 in
set_option maxHeartbeats 8000000 in
theorem pop_some (B k p : Nat) (best : Bool) (hv : Value) (d : Array Nd) (w : World) (hp : Bx 123 w p #[.int .i64 (ordV best), hv]) (hq : QHeap B k w hv d) (hh : HpFrom best d 0) (hk : k ≤ LIM) (hk2 : k ≤ 34359738368) (hn : d.size ≤ 35184372088832) (h0 : 0 < d.size) :
    Calls Try.prog 59 #[.pointer (some ⟨p, 0, none⟩)] w fun e w' => ∃ va, e = .returned (.tuple #[va, .bool true]) ∧ NdV B k w' va d[0]! ∧ ChgS (p :: blks hv) w w' ∧ ∃ hv' d', Bx 123 w' p #[.int .i64 (ordV best), hv'] ∧ QHeap B k w' hv' d' ∧ HpFrom best d' 0 ∧ (d[0]! :: d'.toList).Perm d.toList ∧ d'.size + 1 = d.size ∧ hv'.ownBlock = hv.ownBlock := by
  obtain ⟨vs, hvl, h5, hown, hnd⟩ := hq
  obtain ⟨m, hm⟩ : ∃ m, d.size = m + 1 := ⟨d.size - 1, by omega⟩
  rw [hm] at hown
  obtain ⟨g, cap, rest, rfl, hBg, hcc, hcm, hl, hold⟩ := ownsRow_hold hown h5 (hvl.trans hm)
  have hpg : p ≠ g := by
    rintro rfl
    have h1 := hold.2
    unfold Bx at h1 hp
    rw [h1] at hp
    simp at hp
  have hnds : Nds B k g rest w vs d := ⟨hvl, hold, hnd⟩
  obtain ⟨b0, a1, n1, c1, a2, n2, c2, hv0, hcell0, hnd0⟩ := hnds.at (i := 0) (by omega)
  obtain ⟨b3, a3, n3, c3, a4, n4, c4, hvm, hcellm, hndm⟩ := hnds.at (i := m) (by omega)
  have hpl := hp.lt
  have hgl := blk_lt hold.2
  obtain ⟨x0, hx0⟩ : ∃ x, x = d[0]! := ⟨_, rfl⟩
  obtain ⟨xm, hxm⟩ : ∃ x, x = d[m]! := ⟨_, rfl⟩
  rw [← hx0] at hv0 hcell0 hnd0 ⊢
  rw [← hxm] at hvm hcellm hndm
  obtain ⟨i0, d0, q0⟩ := x0
  obtain ⟨im, dm, qm⟩ := xm
  simp only at hv0 hvm hcell0 hcellm
  obtain ⟨w0, hw0, e0, bz, s0⟩ := alloc1 w #[.int .i64 0, .int .i64 0, .bool false, .slice none 0 0, .slice none 0 0] 74
  obtain ⟨w1, hw1, e1, bn, s1⟩ := alloc1 w0 #[.int .i64 i0, .int .i64 d0, .bool b0, .slice a1 n1 c1, .slice a2 n2 c2] 74
  have E1 := e0.trans e1
  have P1 := hp.ext E1
  have hcp := (hp.ext e0).cell 1
  have hg0 := hcell0 w0 e0 0 _ rfl
  have hg1 := hcell0 w0 e0 1 _ rfl
  have hg2 := hcell0 w0 e0 2 _ rfl
  have hg3 := hcell0 w0 e0 3 _ rfl
  have hg4 := hcell0 w0 e0 4 _ rfl
  have hcp1 := P1.cell 1
  have hw2 : w1 = (w.alloc (.cells #[.int .i64 0, .int .i64 0, .bool false, .slice none 0 0, .slice none 0 0] 74)).alloc (.cells #[.int .i64 i0, .int .i64 d0, .bool b0, .slice a1 n1 c1, .slice a2 n2 c2] 74) := by rw [hw1, hw0]
  rw [hw0] at hcp hg0 hg1 hg2 hg3 hg4
  rw [hw2] at hcp1
  simp only [Nat.zero_mul, Nat.zero_add] at hg0 hg1 hg2 hg3 hg4
  have BZ := Lib.hid (bz.ext e1)
  have BN := Lib.hid bn
  have HN1 := Lib.hid (hnds.ext E1)
  have HV0 := Lib.hid hv0
  have HVM := Lib.hid hvm
  have HC := Lib.hid (show ∀ wz, Ext w1 wz → _ from fun wz hz => hcellm wz (E1.trans hz))
  have HND0 := Lib.hid hnd0
  have HNDM := Lib.hid hndm
  have HX0 := Lib.hid hx0
  have HXM := Lib.hid hxm
  have HH := Lib.hid hh
  have HM := Lib.hid hm
  have HL := Lib.hid hl
  have HVL := Lib.hid hvl
  have hml : (m : Int) < (m : Int) + 1 := by omega
  have hcap : m ≤ cap := by omega
  rw [s0] at bn BN
  clear hw0 hw1 bz bn hnds hv0 hvm hcell0 hcellm hnd0 hndm hx0 hxm hh hm hold hown hnd h5 hvl hp hl
  have hmn : m ≤ 35184372088832 := by have := HM.out; omega
  go_enter Try.func59, Try.ntmps59
  go_wp2_with fail
  rw [← hw2]
  clear hw2
  refine wp_region_set g (m + 1) 0 12 rest vs (.agg #[.int .i64 im, .int .i64 dm, .bool b3, .slice a3 n3 c3, .slice a4 n4 c4]) [PP.val (.pointer (some ⟨p, 0, none⟩)), PP.val (.pointer (some ⟨p, 0, none⟩)), PP.val (.pointer (some ⟨p, 1, none⟩)), PP.val (.slice (some ⟨g, 0, none⟩) (m + 1) cap), PP.val (.pointer (some ⟨p, 0, none⟩)), PP.val (.pointer (some ⟨p, 0, none⟩)), PP.val (.pointer (some ⟨p, 1, none⟩)), PP.val (.slice (some ⟨g, 0, none⟩) (m + 1) cap), PP.val (.int .i64 (m : Int)), PP.val (.pointer (some ⟨g, m * 5, none⟩)), PP.val (.agg #[.int .i64 im, .int .i64 dm, .bool b3, .slice a3 n3 c3, .slice a4 n4 c4]), PP.val (.pointer (some ⟨g, 0 * 5, none⟩)), PP.any] [] [12, 11, 10, 9, 8, 7, 6, 5, 4, 3, 2, 1, 0] (by kernel_rfl) (by kernel_rfl) (fun f => (by simp only [fillR, fillL, List.setIfInBounds_toArray, List.set_cons_succ, List.set_cons_zero, Nat.reduceAdd]; rfl)) (HVL.out.trans HM.out) HN1.out.2.1 (by omega) (by intro p hp; simp only [List.mem_cons, List.not_mem_nil, or_false] at hp; rcases hp with rfl | rfl | rfl | rfl | rfl | rfl | rfl | rfl | rfl | rfl | rfl | rfl | rfl <;> rfl) ?_ ?_ (by decide)
  · refine ⟨?o0, ?o1, ?o2, ?o3, ?o4, ?o5, ?o6, ?o7, ?o8, ?o9, ?o10, ?o11, ?o12, trivial⟩
    case o0 =>
      intro f w2 hG hp hl
      have hE : Ext w1 w2 := hG
      have hS := hE.size
      simp only [OpGoal]
      go_simp
      exact ⟨_, rfl, Ext.refl _, rfl⟩
    case o1 =>
      intro f w2 hG hp hl
      have hE : Ext w1 w2 := hG
      have hS := hE.size
      have q25 : f 0 = .pointer (some ⟨p, 0, none⟩) := tellM hp 0 0 rfl rfl
      simp only [OpGoal]
      go_simp
      exact ⟨_, rfl, Ext.refl _, rfl⟩
    case o2 =>
      intro f w2 hG hp hl
      have hE : Ext w1 w2 := hG
      have hS := hE.size
      have q26 : f 1 = .pointer (some ⟨p, 0, none⟩) := tellM hp 0 1 rfl rfl
      simp only [OpGoal]
      go_simp
      exact ⟨_, rfl, Ext.refl _, rfl⟩
    case o3 =>
      intro f w2 hG hp hl
      have hE : Ext w1 w2 := hG
      have hS := hE.size
      have q27 : f 2 = .pointer (some ⟨p, 1, none⟩) := tellM hp 0 2 rfl rfl
      have hcell := (P1.ext hE).cell 1
      simp only [OpGoal]
      go_simp
      exact ⟨_, rfl, Ext.refl _, rfl⟩
    case o4 =>
      intro f w2 hG hp hl
      have hE : Ext w1 w2 := hG
      have hS := hE.size
      simp only [OpGoal]
      go_simp
      exact ⟨_, rfl, Ext.refl _, rfl⟩
    case o5 =>
      intro f w2 hG hp hl
      have hE : Ext w1 w2 := hG
      have hS := hE.size
      have q29 : f 4 = .pointer (some ⟨p, 0, none⟩) := tellM hp 0 4 rfl rfl
      simp only [OpGoal]
      go_simp
      exact ⟨_, rfl, Ext.refl _, rfl⟩
    case o6 =>
      intro f w2 hG hp hl
      have hE : Ext w1 w2 := hG
      have hS := hE.size
      have q30 : f 5 = .pointer (some ⟨p, 0, none⟩) := tellM hp 0 5 rfl rfl
      simp only [OpGoal]
      go_simp
      exact ⟨_, rfl, Ext.refl _, rfl⟩
    case o7 =>
      intro f w2 hG hp hl
      have hE : Ext w1 w2 := hG
      have hS := hE.size
      have q31 : f 6 = .pointer (some ⟨p, 1, none⟩) := tellM hp 0 6 rfl rfl
      have hcell := (P1.ext hE).cell 1
      simp only [OpGoal]
      go_simp
      exact ⟨_, rfl, Ext.refl _, rfl⟩
    case o8 =>
      intro f w2 hG hp hl
      have hE : Ext w1 w2 := hG
      have hS := hE.size
      simp only [OpGoal]
      go_simp
      exact ⟨_, rfl, Ext.refl _, rfl⟩
    case o9 =>
      intro f w2 hG hp hl
      have hE : Ext w1 w2 := hG
      have hS := hE.size
      have q32 : f 7 = .slice (some ⟨g, 0, none⟩) (m + 1) cap := tellM hp 0 7 rfl rfl
      have q33 : f 8 = .int .i64 (m : Int) := tellM hp 1 8 rfl rfl
      simp only [OpGoal]
      go_simp
      exact ⟨_, rfl, Ext.refl _, rfl⟩
    case o10 =>
      intro f w2 hG hp hl
      have hE : Ext w1 w2 := hG
      have hS := hE.size
      have q34 : f 9 = .pointer (some ⟨g, m * 5, none⟩) := tellM hp 0 9 rfl rfl
      change OpGoal _ _ _ f w2 Ext _
      exact og_loadAt (P := Try.prog) _ _ g (m * 5) _ _ rfl rfl q34 (fun j v h => HC.out _ hE j v h) Try.underlying74 rfl (by kernel_rfl) rfl
    case o11 =>
      intro f w2 hG hp hl
      have hE : Ext w1 w2 := hG
      have hS := hE.size
      have q28 : f 3 = .slice (some ⟨g, 0, none⟩) (m + 1) cap := tellM hp 0 3 rfl rfl
      simp only [OpGoal]
      go_simp
      exact ⟨_, rfl, Ext.refl _, rfl⟩
    case o12 =>
      intro f w2 hG hp hl
      have hE : Ext w1 w2 := hG
      have hS := hE.size
      have q36 : f 11 = .pointer (some ⟨g, 0 * 5, none⟩) := tellM hp 0 11 rfl rfl
      have q35 : f 10 = .agg #[.int .i64 im, .int .i64 dm, .bool b3, .slice a3 n3 c3, .slice a4 n4 c4] := tellM hp 1 10 rfl rfl
      intro hI hU
      exact og_stN (P := Try.prog) g (m + 1) _ _ 12 0 _ _ _ _ _ _ rfl rfl q36 q35 (by omega) (by kernel_rfl) HNDM.out.five hI
  · intro f w2 hC hW hp
    clear hp
    have HN2 := Lib.hid (HN1.out.put hC (by have := HM.out; omega) HVM.out hW)
    have P2 := P1.chg hC hpg
    have hcq := P2.cell 1
    have hfq := P2.free 1
    have BZ2 := Lib.hid (BZ.out.chg hC (by omega))
    have BN2 := Lib.hid (BN.out.chg hC (by omega))
    have HND2 := Lib.hid ((HND0.out.ext E1).chgN hC HN1.out.2.1.2 hW.2 (by decide) (by decide))
    have hch2 := Lib.hid ((E1.chgS (p :: blks (.slice (some ⟨g, 0, none⟩) (m + 1) cap))).stepC hC (.inl (by simp [blks, Value.ownBlock])))
    clear hcp hcp1 hg0 hg1 hg2 hg3 hg4 hW
    go_wp2_with fail
    obtain ⟨w3, hw3⟩ : ∃ w3, w3 = w2.setCell ⟨p, 1, none⟩ (.slice (some ⟨g, 0, none⟩) m cap) := ⟨_, rfl⟩
    rw [← hw3]
    have P3 : Bx 123 w3 p #[.int .i64 (ordV best), .slice (some ⟨g, 0, none⟩) m cap] := by rw [hw3]; exact P2.set 1 _
    have c3 : Chg p w2 w3 := by rw [hw3]; exact Chg.setCell _ p 1 _
    have HN3 := HN2.out.chgP c3 P2 P3 (by decide) (by decide) (Ne.symm hpg)
    have HND3 := HND2.out.chgN c3 P2 P3 (by decide) (by decide)
    have BN3 := BN2.out.chg c3 (by omega)
    have BZ3 := BZ2.out.chg c3 (by omega)
    have s3 := c3.size
    have sC := hC.size
    clear hw3 hcq hfq
    refine (sinkP_calls B k p g cap m best rest _ d w3 P3 HN3 HM.out HH.out hBg hcc hcm (by rw [List.length_set]; exact HL.out) hk hk2 hmn).mono ?_
    rintro e w4 ⟨rfl, c4, d', qh, hh', hperm, hsz⟩
    have P4 := P3.chg c4 hpg
    have BN4 := BN3.chg c4 (by omega)
    have BZ4 := BZ3.chg c4 (by omega)
    obtain ⟨vsq, qs1, qs2, qs3, qs4⟩ := id qh
    have HND4 := Lib.hid (show NdV B k w4 _ _ from by
      rcases qs3.2 with ⟨h1, h2⟩ | ⟨g', cap', cur, h1, h2, h3, h4⟩
      · cases h1
      · cases h1
        exact HND3.chgN c4 HN3.2.1.2 h3 (by decide) (by decide))
    have HQ := Lib.hid qh
    have HH4 := Lib.hid hh'
    have HPm := Lib.hid hperm
    have HSz := Lib.hid hsz
    have HP4 := Lib.hid P4
    have hch4 := Lib.hid ((hch2.out.stepC c3 (.inl (by simp))).stepC c4 (.inl (by simp [blks, Value.ownBlock])))
    clear qh hh' hperm hsz P4 qs1 qs2 qs3 qs4
    have hd0 := BN4.cell 0
    have hd1 := BN4.cell 1
    have hd2 := BN4.cell 2
    have hd3 := BN4.cell 3
    have hd4 := BN4.cell 4
    have hb := BZ4
    have hc0 := hb.cell 0
    have hf0 := hb.free 0
    have hc1 := hb.cell 1
    have hf1 := hb.free 1
    have hc2 := hb.cell 2
    have hf2 := hb.free 2
    have hc3 := hb.cell 3
    have hf3 := hb.free 3
    have hc4 := hb.cell 4
    have hf4 := hb.free 4
    go_wp2
    refine ret_box2 2 3 74 w.heap.size 74 _ _ _ (by kernel_rfl) rfl rfl (((((hb.set 0 _).set 1 _).set 2 _).set 3 _).set 4 _) Try.underlying74 rfl (by kernel_rfl) rfl ?_
    have c5 := Lib.hid ((((Chg.setCell w4 w.heap.size 0 (.int .i64 i0)).trans (Chg.setCell _ w.heap.size 1 (.int .i64 d0))).trans (Chg.setCell _ w.heap.size 2 (.bool b0))).trans (Chg.setCell _ w.heap.size 3 (.slice a1 n1 c1)) |>.trans (Chg.setCell _ w.heap.size 4 (.slice a2 n2 c2)))
    have B5 := ((((hb.set 0 (.int .i64 i0)).set 1 (.int .i64 d0)).set 2 (.bool b0)).set 3 (.slice a1 n1 c1)).set 4 (.slice a2 n2 c2)
    refine ⟨_, rfl, HND4.out.chgN c5.out BZ4 B5 (by decide) (by decide), hch4.out.stepC c5.out (.inr (Nat.le_refl _)), _, d', HP4.out.chg c5.out (by omega), HQ.out.chgO c5.out BZ4 B5 (by decide) (by decide) (by simp [Value.ownBlock]; omega), HH4.out, by rw [HX0.out]; exact HPm.out, by rw [HSz.out, HM.out], rfl⟩
end Go.Proofs.Ytkcnnlhaiahpbaa
