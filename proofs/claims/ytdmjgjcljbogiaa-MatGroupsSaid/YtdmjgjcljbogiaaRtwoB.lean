/-
 The document's whole numbers, walked (II).
-/
import Derived.Test.YtdmjgjcljbogiaaRtwoA
namespace Go.Proofs.Ytdmjgjcljbogiaa
set_option maxRecDepth 100000
set_option maxHeartbeats 1000000
open Go.RowKit
set_option linter.unusedVariables false
set_option linter.unusedSimpArgs false
theorem CZ.parts {w : World} {v : Value} {z : Int} (h : CZ w v z) : ∃ b s n, v = .agg #[.bool b, s] ∧ IsC .i64 TK w s n ∧ z = sgn b n := by
 obtain ⟨s, h1, h2⟩ := h
 exact ⟨_, s, _, h1, h2, (sgn_self z).symm⟩
theorem szT_sgn (b : Bool) (n : Nat) : szT (sgn b n) = sz TK n := by unfold szT; rw [sgn_natAbs]
theorem zto2_calls (v : Value) (z : Int) (w : World) (hv : CZ w v z) (hsz : szT z ≤ 68719476736) :
  Calls Try.prog 31 #[v] w fun e w' => ∃ v', e = .returned v' ∧ FrZ w.heap.size w' v' z ∧ Ext w w' := by
 obtain ⟨s, rfl, hs⟩ := hv
 unfold szT at hsz
 go_enter Try.func31, Try.ntmps31
 go_wp2_with fail
 obtain ⟨w1, hw1, e1, b1, b2, s1⟩ := alloc2 w #[.bool (decide (z < 0)), s] #[.bool false, .slice none 0 0] 34 24
 rw [← hw1]
 clear hw1
 refine wp_region_puts [⟨6, (w.heap.size + 1), 24, PP.frZ z⟩] [PP.val (.pointer (some ⟨w.heap.size, 0, none⟩)), PP.val (.bool (decide (z < 0))), PP.val (.pointer (some ⟨w.heap.size, 1, none⟩)), PP.val (s), PP.frN 88 .u64 W z.natAbs, PP.frZ z, PP.any] [] [6, 5, 4, 3, 2, 1, 0]
  (by kernel_rfl) (by kernel_rfl) (fun f => (by simp only [fillR, fillL, List.setIfInBounds_toArray, List.set_cons_succ, List.set_cons_zero, Nat.reduceAdd]; rfl)) ?_ ?_ ?_ ?_ ?_
 ·intro x hx; simp only [List.mem_singleton] at hx; subst hx; exact ⟨by show (w.heap.size + 1) < w1.heap.size; omega, rfl⟩
 ·intro x hx; simp only [List.mem_singleton] at hx; subst hx; rfl
 ·intro x hx y hy h; simp only [List.mem_singleton] at hx hy; subst hx hy; exact absurd rfl h
 ·refine ⟨?o0, ?o1, ?o2, ?o3, ?o4, ?o5, ?o6, trivial⟩
  case o0 =>
   intro f w2 hG hp hl
   have hE : Ext w1 w2 := hG
   have hS := hE.size
   simp only [OpGoal]
   go_simp
   exact ⟨_, rfl, Ext.refl _, rfl⟩
  case o1 =>
   intro f w2 hG hp hl
   have hE : Ext w1 w2 := hG
   have hS := hE.size
   have q3 : f 0 = .pointer (some ⟨w.heap.size, 0, none⟩) := tellV hp 0 0 rfl rfl (fun h => by cases h)
   have hcell := (b1.ext hE).cell 0
   simp only [OpGoal]
   go_simp
   exact ⟨_, rfl, Ext.refl _, rfl⟩
  case o2 =>
   intro f w2 hG hp hl
   have hE : Ext w1 w2 := hG
   have hS := hE.size
   simp only [OpGoal]
   go_simp
   exact ⟨_, rfl, Ext.refl _, rfl⟩
  case o3 =>
   intro f w2 hG hp hl
   have hE : Ext w1 w2 := hG
   have hS := hE.size
   have q5 : f 2 = .pointer (some ⟨w.heap.size, 1, none⟩) := tellV hp 0 2 rfl rfl (fun h => by cases h)
   have hcell := (b1.ext hE).cell 1
   simp only [OpGoal]
   go_simp
   exact ⟨_, rfl, Ext.refl _, rfl⟩
  case o4 =>
   intro f w2 hG hp hl
   have hE : Ext w1 w2 := hG
   have hS := hE.size
   have q6 : f 3 = s := tellV hp 0 3 rfl rfl (fun h => by cases h)
   change OpGoal _ _ _ f w2 Ext _
   refine og_call (P := Try.prog) _ _ _ #[f 3] Try.func68 (by kernel_rfl) (by kernel_rfl) rfl rfl (by kernel_rfl) ?_
   rw [q6]
   refine (rto01_calls _ z.natAbs _ ((hs.isN TK_gt (by rw [LIM_eq]; omega)).ext (e1.trans hE)) hsz).mono ?_
   rintro e w' ⟨v', rfl, h1, h2⟩
   exact ⟨v', rfl, h2, h1.mono hS⟩
  case o5 =>
   intro f w2 hG hp hl
   have hE : Ext w1 w2 := hG
   have hS := hE.size
   have q4 : f 1 = .bool (decide (z < 0)) := tellV hp 0 1 rfl rfl (fun h => by cases h)
   have q7 := tellV hp 1 4 rfl rfl (fun _ => hE)
   obtain ⟨ad, cap, hv⟩ := FrN.slice q7
   simp only [OpGoal]
   go_simp
   exact ⟨_, rfl, Ext.refl _, _, rfl, hv ▸ q7⟩
  case o6 =>
   intro f w2 hG hp hl
   have hE : Ext w1 w2 := hG
   have hS := hE.size
   have q8 := tellV hp 0 5 rfl rfl (fun _ => hE)
   intro hg0
   change OpGoal _ _ _ f w2 (Chg _) _
   obtain ⟨s', hv, hn⟩ := q8
   exact og_store (P := Try.prog) _ _ _ (w.heap.size + 1) _ _ _ (PP.frZ _ : PP _).p rfl rfl rfl hv (show Bx 24 w2 _ _ from hg0.trans b2) (by kernel_rfl) rfl (all2 rfl hn.oneCell) (fun w' h => ⟨s', rfl, hn.chg h (by omega)⟩)
 ·intro f w2 hG hp
  obtain ⟨cs0, hbx0, hz0⟩ : ∃ cs, Bx 24 w2 (w.heap.size + 1) cs ∧ (PP.frZ z : PP w1.heap.size).p (.agg cs) w2 := endS hp 6 (by decide)
  clear hp
  have hz1 := hz0.mono (show w.heap.size ≤ _ by omega)
  obtain ⟨s', hv, hn⟩ := hz0
  cases hv
  go_wp2
  refine ret_box 2 24 (w.heap.size + 1) 24 _ _ (by kernel_rfl) rfl hbx0 Try.underlying24 rfl (by kernel_rfl) rfl ?_
  exact ⟨_, rfl, hz1, e1.stepS hG (by simp)⟩
def RawI (w : World) (v : Value) (b : Bool) (xs : List Nat) : Prop := ∃ s, v = .agg #[.bool b, s] ∧ IsL .u64 w s xs
theorem RawI.ext {w w' : World} {v : Value} {b : Bool} {xs : List Nat} (h : RawI w v b xs) (he : Ext w w') : RawI w' v b xs := by
 obtain ⟨s, h1, h2⟩ := h
 exact ⟨s, h1, h2.ext he⟩
theorem FrZ.raw {B0 : Nat} {w : World} {v : Value} {z : Int} (h : FrZ B0 w v z) : RawI w v (decide (z < 0)) (dg W z.natAbs) := by
 obtain ⟨s, h1, h2⟩ := h
 exact ⟨s, h1, h2.isC⟩
theorem zsame2_calls (v u : Value) (b c : Bool) (xs ys : List Nat) (w : World) (hv : RawI w v b xs) (hu : RawI w u c ys) :
  Calls Try.prog 18 #[v, u] w fun e w' => e = .returned (.bool (decide (b = c ∧ xs = ys))) ∧ Ext w w' := by
 obtain ⟨s, rfl, hs⟩ := hv
 obtain ⟨t, rfl, ht⟩ := hu
 go_enter Try.func18, Try.ntmps18
 obtain ⟨w1, hw1, e1, b1, b2, s1⟩ := alloc2 w #[.bool b, s] #[.bool c, t] 24 24
 have hc0 := b1.cell 0
 have hc1 := b1.cell 1
 have hd0 := b2.cell 0
 have hd1 := b2.cell 1
 rw [hw1] at hc0 hc1 hd0 hd1
 by_cases hbc : b = c
 ·subst hbc
  have hdec : (b == b) = true := by cases b <;> rfl
  go_wp2_with fail
  rw [← hw1]
  clear hc0 hc1 hd0 hd1
  refine (rsame_calls _ _ xs ys _ (hs.ext e1) (ht.ext e1)).mono ?_
  rintro e w2 ⟨rfl, e2⟩
  go_wp2
  go_ret
  exact ⟨by simp, e1.trans e2⟩
 ·have hdec : (b == c) = false := by cases b <;> cases c <;> simp_all
  go_wp2
  go_ret
  exact ⟨by simp [hbc], ((Ext.refl w).alloc _).alloc _⟩
end Go.Proofs.Ytdmjgjcljbogiaa
