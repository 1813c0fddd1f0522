/-
 The document's fractions, walked (II).
-/
import Derived.Test.YtdmjgjcljbogiaaRthreeA
namespace Go.Proofs.Ytdmjgjcljbogiaa
set_option maxRecDepth 100000
set_option maxHeartbeats 1000000
open Go.RowKit
set_option linter.unusedVariables false
set_option linter.unusedSimpArgs false
theorem lowest3z_calls (v u : Value) (z : Int) (d : Nat) (w : World) (hv : CZ w v z) (hu : IsN .i64 TK w u d) (hd : 0 < d) (hsz : szT z ≤ 68719476736) (hsd : sz TK d ≤ 68719476736) :
  Calls Try.prog 69 #[v, u] w fun e w' => ∃ v', e = .returned v' ∧ FrQd w.heap.size w' v' (mkRat z d) ∧ Ext w w' := by
 obtain ⟨b, s, n, rfl, hs, rfl⟩ := hv.parts
 rw [szT_sgn] at hsz
 exact lowest3_calls b s u n d w hs hu hd hsz hsd
theorem szD_le {q : Rat} {k : Nat} (h : szD q ≤ k) : szT q.num ≤ k ∧ sz TK q.den ≤ k := by unfold szD at h; omega
theorem rqto3_calls (v : Value) (q : Rat) (w : World) (hv : CQ w v q) (hsz : szD q ≤ 68719476736) :
  Calls Try.prog 16 #[v] w fun e w' => ∃ v', e = .returned v' ∧ FrQ w.heap.size w' v' q ∧ Ext w w' := by
 obtain ⟨s, t, rfl, hs, ht⟩ := hv
 have hk := szD_le hsz
 have hZ : CZ w (.agg #[.bool (decide (q.num < 0)), s]) q.num := ⟨s, rfl, hs⟩
 go_enter Try.func16, Try.ntmps16
 go_wp2_with fail
 obtain ⟨w1, hw1, e1, b1, b2, s1⟩ := alloc2 w #[.bool (decide (q.num < 0)), s, t] #[.bool false, .slice none 0 0, .slice none 0 0] 40 28
 rw [← hw1]
 clear hw1
 refine wp_region_puts [⟨7, (w.heap.size + 1), 28, PP.frQ q⟩] [PP.val (.pointer (some ⟨w.heap.size, 0, none⟩)), PP.val (.agg #[.bool (decide (q.num < 0)), s]), PP.frZ q.num, PP.val (.pointer (some ⟨w.heap.size, 2, none⟩)), PP.val (t), PP.frN 88 .u64 W q.den, PP.frQ q, PP.any] [] [7, 6, 5, 4, 3, 2, 1, 0]
  (by kernel_rfl) (by kernel_rfl) (fun f => (by simp only [fillR, fillL, List.setIfInBounds_toArray, List.set_cons_succ, List.set_cons_zero, Nat.reduceAdd]; rfl)) ?_ ?_ ?_ ?_ ?_
 ·intro x hx; simp only [List.mem_singleton] at hx; subst hx; exact ⟨by show (w.heap.size + 1) < w1.heap.size; omega, rfl⟩
 ·intro x hx; simp only [List.mem_singleton] at hx; subst hx; rfl
 ·intro x hx y hy h; simp only [List.mem_singleton] at hx hy; subst hx hy; exact absurd rfl h
 ·refine ⟨?o0, ?o1, ?o2, ?o3, ?o4, ?o5, ?o6, ?o7, trivial⟩
  case o0 =>
   intro f w2 hG hp hl
   have hE : Ext w1 w2 := hG
   have hS := hE.size
   simp only [OpGoal]
   go_simp
   exact ⟨_, rfl, Ext.refl _, rfl⟩
  case o1 =>
   intro f w2 hG hp hl
   have hE : Ext w1 w2 := hG
   have hS := hE.size
   have q3 : f 0 = .pointer (some ⟨w.heap.size, 0, none⟩) := tellV hp 0 0 rfl rfl (fun h => by cases h)
   have hbx := b1.ext hE
   have hcell0 := hbx.cell 0
   have hcell1 := hbx.cell 1
   have hcell2 := hbx.cell 2
   simp only [OpGoal]
   go_simp
   exact ⟨_, rfl, Ext.refl _, rfl⟩
  case o2 =>
   intro f w2 hG hp hl
   have hE : Ext w1 w2 := hG
   have hS := hE.size
   have q4 : f 1 = .agg #[.bool (decide (q.num < 0)), s] := tellV hp 0 1 rfl rfl (fun h => by cases h)
   change OpGoal _ _ _ f w2 Ext _
   refine og_call (P := Try.prog) _ _ _ #[f 1] Try.func31 (by kernel_rfl) (by kernel_rfl) rfl rfl (by kernel_rfl) ?_
   rw [q4]
   refine (zto2_calls _ q.num _ (hZ.ext (e1.trans hE)) hk.1).mono ?_
   rintro e w' ⟨v', rfl, h1, h2⟩
   exact ⟨v', rfl, h2, h1.mono hS⟩
  case o3 =>
   intro f w2 hG hp hl
   have hE : Ext w1 w2 := hG
   have hS := hE.size
   simp only [OpGoal]
   go_simp
   exact ⟨_, rfl, Ext.refl _, rfl⟩
  case o4 =>
   intro f w2 hG hp hl
   have hE : Ext w1 w2 := hG
   have hS := hE.size
   have q6 : f 3 = .pointer (some ⟨w.heap.size, 2, none⟩) := tellV hp 0 3 rfl rfl (fun h => by cases h)
   have hcell := (b1.ext hE).cell 2
   simp only [OpGoal]
   go_simp
   exact ⟨_, rfl, Ext.refl _, rfl⟩
  case o5 =>
   intro f w2 hG hp hl
   have hE : Ext w1 w2 := hG
   have hS := hE.size
   have q7 : f 4 = t := tellV hp 0 4 rfl rfl (fun h => by cases h)
   change OpGoal _ _ _ f w2 Ext _
   refine og_call (P := Try.prog) _ _ _ #[f 4] Try.func68 (by kernel_rfl) (by kernel_rfl) rfl rfl (by kernel_rfl) ?_
   rw [q7]
   refine (rto01_calls _ q.den _ ((ht.isN TK_gt (by rw [LIM_eq]; omega)).ext (e1.trans hE)) hk.2).mono ?_
   rintro e w' ⟨v', rfl, h1, h2⟩
   exact ⟨v', rfl, h2, h1.mono hS⟩
  case o6 =>
   intro f w2 hG hp hl
   have hE : Ext w1 w2 := hG
   have hS := hE.size
   have q5 := tellV hp 0 2 rfl rfl (fun _ => hE)
   have q8 := tellV hp 1 5 rfl rfl (fun _ => hE)
   obtain ⟨s', hv, hn⟩ := q5
   obtain ⟨ad, cap, rfl⟩ := hn.slice
   obtain ⟨ad2, cap2, hv2⟩ := FrN.slice q8
   simp only [OpGoal]
   go_simp
   exact ⟨_, rfl, Ext.refl _, _, _, rfl, hn, hv2 ▸ q8⟩
  case o7 =>
   intro f w2 hG hp hl
   have hE : Ext w1 w2 := hG
   have hS := hE.size
   have q9 := tellV hp 0 6 rfl rfl (fun _ => hE)
   intro hg0
   change OpGoal _ _ _ f w2 (Chg _) _
   obtain ⟨s', t', hv, hn, hm⟩ := q9
   exact og_store (P := Try.prog) _ _ _ (w.heap.size + 1) _ _ _ (PP.frQ _ : PP _).p rfl rfl rfl hv (show Bx 28 w2 _ _ from hg0.trans b2) (by kernel_rfl) rfl (all3 rfl hn.oneCell hm.oneCell) (fun w' h => ⟨s', t', rfl, hn.chg h (by omega), hm.chg h (by omega)⟩)
 ·intro f w2 hG hp
  obtain ⟨cs0, hbx0, hz0⟩ : ∃ cs, Bx 28 w2 (w.heap.size + 1) cs ∧ (PP.frQ q : PP w1.heap.size).p (.agg cs) w2 := endS hp 7 (by decide)
  clear hp
  have hz1 := hz0.mono (show w.heap.size ≤ _ by omega)
  obtain ⟨s', t', hvv, hnn, hmm⟩ := hz0
  cases hvv
  go_wp2
  refine ret_box 2 28 (w.heap.size + 1) 28 _ _ (by kernel_rfl) rfl hbx0 Try.underlying28 rfl (by kernel_rfl) rfl ?_
  exact ⟨_, rfl, hz1, e1.stepS hG (by simp)⟩
end Go.Proofs.Ytdmjgjcljbogiaa
