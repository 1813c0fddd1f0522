/-
  A result's memory written over: what it harms, and that it harms nothing else.
-/
import Derived.Test.YtnefipinicfegaaLawT
namespace Go.Proofs.Ytnefipinicfegaa
open Go.RowKit
set_option linter.unusedVariables false
set_option linter.unusedSimpArgs false

/-- From w to w' nothing changed but words in blocks of words from B0 on; and what is new is new. -/
def Hurt (B0 : Nat) (w w' : World) : Prop := w'.os = w.os ∧ w'.tape = w.tape ∧ w'.output = w.output ∧ w.heap.size ≤ w'.heap.size ∧
  ∀ k, k < w.heap.size → w'.heap[k]? = w.heap[k]? ∨ (B0 ≤ k ∧ ∃ cur cur', w.heap[k]? = some (.cells cur 79 (0, 0)) ∧ w'.heap[k]? = some (.cells cur' 79 (0, 0)) ∧ cur'.size = cur.size)
set_option maxRecDepth 100000 in
set_option maxHeartbeats 1000000 in
theorem Hurt.trans {B0 : Nat} {a b c : World} (h : Hurt B0 a b) (k : Hurt B0 b c) : Hurt B0 a c := by
  obtain ⟨h1, h2, h3, h4, h5⟩ := h
  obtain ⟨k1, k2, k3, k4, k5⟩ := k
  refine ⟨k1.trans h1, k2.trans h2, k3.trans h3, Nat.le_trans h4 k4, fun g hg => ?_⟩
  rcases h5 g hg with e1 | ⟨hb, cur, cur', c1, c2, c3⟩ <;> rcases k5 g (by omega) with e2 | ⟨hb2, dur, dur', d1, d2, d3⟩
  · exact .inl (e2.trans e1)
  · exact .inr ⟨hb2, dur, dur', e1 ▸ d1, d2, d3⟩
  · exact .inr ⟨hb, cur, cur', c1, e2.trans c2, c3⟩
  · refine .inr ⟨hb, cur, dur', c1, d2, ?_⟩
    rw [c2] at d1
    cases d1
    omega
set_option maxRecDepth 100000 in
set_option maxHeartbeats 1000000 in
theorem Ext.hurts {w w' : World} (B0 : Nat) (h : Ext w w') : Hurt B0 w w' := ⟨World.grownBy.os h, World.grownBy.tape h, World.grownBy.output h, h.size, fun k hk => .inl (h.heap hk)⟩
set_option maxRecDepth 100000 in
set_option maxHeartbeats 1000000 in
theorem Ext.hurt {B0 : Nat} {a w w' : World} (h : Ext a w) (k : Hurt B0 w w') (hB : a.heap.size ≤ B0) : Ext a w' := by
  obtain ⟨k1, k2, k3, k4, k5⟩ := k
  refine ⟨k1.trans (World.grownBy.os h), k2.trans (World.grownBy.tape h), k3.trans (World.grownBy.output h), Nat.le_trans h.size k4, fun g hg _ => ?_⟩
  have := h.size
  rcases k5 g (by omega) with e1 | ⟨hb, -⟩
  · exact e1.trans (h.heap hg)
  · omega
set_option maxRecDepth 100000 in
set_option maxHeartbeats 1000000 in
theorem Bx.hurt {B0 : Nat} {t : TypeId} {w w' : World} {g : Nat} {cs : Array Value} (h : Bx t w g cs) (he : Hurt B0 w w') (ht : t ≠ 79) : Bx t w' g cs := by
  rcases he.2.2.2.2 g (blk_lt h) with e1 | ⟨-, cur, cur', c1, -⟩
  · exact e1.trans h
  · unfold Bx at h
    rw [h] at c1
    cases c1
    exact absurd rfl ht
set_option maxRecDepth 100000 in
set_option maxHeartbeats 1000000 in
theorem Hurt.setCell {B0 g i : Nat} {w : World} {cur : Array Value} (h : w.heap[g]? = some (.cells cur 79 (0, 0))) (hB : B0 ≤ g) (u : Value) : Hurt B0 w (w.setCell ⟨g, i, none⟩ u) := by
  have hc := Chg.setCell w g i u
  refine ⟨World.grownBy.os hc, World.grownBy.tape hc, World.grownBy.output hc, hc.size, fun k hk => ?_⟩
  by_cases hkg : k = g
  · subst hkg
    exact .inr ⟨hB, cur, _, h, heap_setCell_same w k i _ _ _ h, by simp⟩
  · exact .inl (hc.heap hk hkg)

/-- A slice of words, whatever they are, in a block from B0 on. -/
def Shp (B0 : Nat) (w : World) (s : Value) : Prop := ∃ ad l cap, s = .slice ad l cap ∧ l ≤ 9223372036854775807 ∧ (l = 0 ∨ ∃ g cur, ad = some ⟨g, 0, none⟩ ∧ B0 ≤ g ∧ w.heap[g]? = some (.cells cur 79 (0, 0)) ∧ l ≤ cur.size)
def ShpQ (B0 : Nat) (w : World) (v : Value) : Prop := ∃ b s t, v = .agg #[.bool b, s, t] ∧ Shp B0 w s ∧ Shp B0 w t
set_option maxRecDepth 100000 in
set_option maxHeartbeats 1000000 in
theorem Shp.hurt {B0 B1 : Nat} {w w' : World} {s : Value} (h : Shp B0 w s) (he : Hurt B1 w w') : Shp B0 w' s := by
  obtain ⟨ad, l, cap, h1, h2, h3⟩ := h
  refine ⟨ad, l, cap, h1, h2, ?_⟩
  rcases h3 with h3 | ⟨g, cur, h3, h4, h5, h6⟩
  · exact .inl h3
  · rcases he.2.2.2.2 g (blk_lt h5) with e1 | ⟨-, cu, cu', c1, c2, c3⟩
    · exact .inr ⟨g, cur, h3, h4, e1.trans h5, h6⟩
    · rw [h5] at c1
      cases c1
      exact .inr ⟨g, cu', h3, h4, c2, by omega⟩
set_option maxRecDepth 100000 in
set_option maxHeartbeats 1000000 in
theorem ShpQ.hurt {B0 B1 : Nat} {w w' : World} {v : Value} (h : ShpQ B0 w v) (he : Hurt B1 w w') : ShpQ B0 w' v := by
  obtain ⟨b, s, t, h1, h2, h3⟩ := h
  exact ⟨b, s, t, h1, h2.hurt he, h3.hurt he⟩
set_option maxRecDepth 100000 in
set_option maxHeartbeats 1000000 in
theorem FrL.shp {k : IntKind} {B0 : Nat} {w : World} {s : Value} {xs : List Nat} (h : FrL 79 k B0 w s xs) : Shp B0 w s := by
  obtain ⟨ad, cap, h1, h2, h3, h4⟩ := h
  refine ⟨ad, _, cap, h1, by omega, ?_⟩
  rcases h4 with ⟨h4, -⟩ | ⟨g, cur, h4, h5, h6, h7, -⟩
  · exact .inl (by rw [vals_nil.1 h4]; rfl)
  · exact .inr ⟨g, cur, h4, h5, h6, by omega⟩
set_option maxRecDepth 100000 in
set_option maxHeartbeats 1000000 in
theorem FrQ.shp {B0 : Nat} {w : World} {v : Value} {q : Rat} (h : FrQ B0 w v q) : ShpQ B0 w v := by
  obtain ⟨s, t, h1, h2, h3⟩ := h
  exact ⟨_, s, t, h1, FrL.shp h2, FrL.shp h3⟩

set_option maxRecDepth 100000 in
set_option maxHeartbeats 1000000 in
theorem spoil_calls (v : Value) (B0 : Nat) (w : World) (hv : ShpQ B0 w v) :
    Calls Try.prog 22 #[v] w fun e w' => e = .returned (.tuple #[]) ∧ Hurt B0 w w' := by
  obtain ⟨b, s, t, rfl, hs, ht⟩ := hv
  obtain ⟨ad, l, cap, rfl, hl, hs1⟩ := hs
  obtain ⟨ad2, m, cap2, rfl, hm, ht1⟩ := ht
  go_enter Try.func22, Try.ntmps22
  obtain ⟨w1, hw1, e1, b1, s1⟩ := alloc1 w #[.bool b, .slice ad l cap, .slice ad2 m cap2] 28
  go_wp2_with fail
  rw [← hw1]
  have H1 := e1.hurts B0
  go_loopw [2] (fun i wr => ∃ k : Nat, k ≤ l ∧ i = .int .i64 (k : Int) ∧ Hurt B0 w wr ∧ Bx 28 wr w.heap.size #[.bool b, .slice ad l cap, .slice ad2 m cap2]) (fun i _ => ((l : Int) - intOf i).toNat)
  case atStart => exact ⟨0, Nat.zero_le _, rfl, H1, b1⟩
  case round =>
    obtain ⟨k, hk, rfl, hH, hB⟩ := hrel
    have hc0 := hB.cell 0
    have hc1 := hB.cell 1
    have hc2 := hB.cell 2
    rcases Nat.eq_or_lt_of_le hk with hkl | hkl
    · subst hkl
      go_wp2_with fail
      clear hc0 hc1 hc2
      go_loopw [3] (fun i wr => ∃ j : Nat, j ≤ m ∧ i = .int .i64 (j : Int) ∧ Hurt B0 w wr ∧ Bx 28 wr w.heap.size #[.bool b, .slice ad k cap, .slice ad2 m cap2]) (fun i _ => ((m : Int) - intOf i).toNat)
      case atStart => exact ⟨0, Nat.zero_le _, rfl, hH, hB⟩
      case round =>
        obtain ⟨j, hj, rfl, hH2, hB2⟩ := hrel
        have hc0 := hB2.cell 0
        have hc1 := hB2.cell 1
        have hc2 := hB2.cell 2
        rcases Nat.eq_or_lt_of_le hj with hjl | hjl
        · subst hjl
          go_wp2
          go_end0
          exact ⟨rfl, hH2⟩
        · have hsh : Shp B0 _ _ := Shp.hurt (s := .slice ad2 m cap2) ⟨_, _, _, rfl, hm, ht1⟩ hH2
          obtain ⟨_, _, _, hsl, -, hsg⟩ := hsh
          cases hsl
          obtain ⟨g, cur, rfl, hg, hh, hcs⟩ := hsg.resolve_left (by omega)
          have hcg := cell_of_row _ g j cur _ _ hh
          rw [Array.getElem?_eq_getElem (by omega)] at hcg
          have hfg := frozen_of_row _ g j _ _ hh
          go_wp2
          go_roundw
          case rel => exact ⟨j + 1, by omega, by simp, hH2.trans (Hurt.setCell hh hg _), hB2.hurt (Hurt.setCell hh hg _) (by decide)⟩
          case measure => simp [intOf]; omega
    · have hsh : Shp B0 _ _ := Shp.hurt (s := .slice ad l cap) ⟨_, _, _, rfl, hl, hs1⟩ hH
      obtain ⟨_, _, _, hsl, -, hsg⟩ := hsh
      cases hsl
      obtain ⟨g, cur, rfl, hg, hh, hcs⟩ := hsg.resolve_left (by omega)
      have hcg := cell_of_row _ g k cur _ _ hh
      rw [Array.getElem?_eq_getElem (by omega)] at hcg
      have hfg := frozen_of_row _ g k _ _ hh
      go_wp2
      go_roundw
      case rel => exact ⟨k + 1, by omega, by simp, hH.trans (Hurt.setCell hh hg _), hB.hurt (Hurt.setCell hh hg _) (by decide)⟩
      case measure => simp [intOf]; omega
end Go.Proofs.Ytnefipinicfegaa
