/-
 rat's functions, walked (II): making, forms, signs, comparison, sums, differences, products, quotients.
-/
import Derived.Test.YtdmjgjcljbogiaaRatA
namespace Go.Proofs.Ytdmjgjcljbogiaa
set_option maxRecDepth 100000
set_option maxHeartbeats 1000000
open Go.RowKit
set_option linter.unusedVariables false
set_option linter.unusedSimpArgs false
def zeroQ : Value := .agg #[.bool false, .slice none 0 0, .slice none 0 0]
theorem form_calls (v : Value) (x : Rat) (k : Nat) (w : World) (hv : IsR w v x k) (hk : k ≤ 68719476736) :
  Calls Try.prog 44 #[v] w fun e w' => ∃ v', e = .returned v' ∧ FrQ w.heap.size w' v' x ∧ Ext w w' := by
 obtain ⟨nx, dx, hqx, rfl, knx, kdx⟩ := hv
 have hpx := hqx.pos
 have Qx := Lib.hid hqx
 obtain ⟨bx, sx, tx, mx, d0x, rfl, hsx, hnx, htx, hdx⟩ := hqx
 have Zx := Lib.hid (show IsZ w (.agg #[.bool bx, sx]) nx from ⟨_, _, _, rfl, hsx, hnx⟩)
 clear hnx hdx
 go_enter Try.func44, Try.ntmps44
 go_wp2_with fail
 obtain ⟨w1, hw1, e1, b1, b2, s1⟩ := alloc2 w #[.bool bx, sx, tx] #[.bool false, .slice none 0 0, .slice none 0 0] 28 28
 rw [← hw1]
 clear hw1
 refine wp_region_puts [⟨5, (w.heap.size + 1), 28, PP.frQ (mkRat nx dx)⟩] [PP.val (.pointer (some ⟨w.heap.size, 0, none⟩)), PP.val (.agg #[.bool bx, sx]), PP.val (.agg #[.bool bx, sx, tx]), PP.isN .u64 W dx, PP.frQ (mkRat nx dx), PP.any] [] [5, 4, 3, 2, 1, 0]
  (by kernel_rfl) (by kernel_rfl) (fun f => (by simp only [fillR, fillL, List.setIfInBounds_toArray, List.set_cons_succ, List.set_cons_zero, Nat.reduceAdd]; rfl)) ?_ ?_ ?_ ?_ ?_
 ·intro x hx; simp only [List.mem_singleton] at hx; subst hx; exact ⟨by show (w.heap.size + 1) < w1.heap.size; omega, rfl⟩
 ·intro x hx; simp only [List.mem_singleton] at hx; subst hx; rfl
 ·intro x hx y hy h; simp only [List.mem_singleton] at hx hy; subst hx hy; exact absurd rfl h
 ·refine ⟨?o0, ?o1, ?o2, ?o3, ?o4, ?o5, trivial⟩
  case o0 =>
   intro f w2 hG hp hl
   have hE : Ext w1 w2 := hG
   have hS := hE.size
   simp only [OpGoal]
   go_simp
   exact ⟨_, rfl, Ext.refl _, rfl⟩
  case o1 =>
   intro f w2 hG hp hl
   have hE : Ext w1 w2 := hG
   have hS := hE.size
   have q3 : f 0 = .pointer (some ⟨w.heap.size, 0, none⟩) := tellV hp 0 0 rfl rfl (fun h => by cases h)
   have hbx := b1.ext hE
   have hcell0 := hbx.cell 0
   have hcell1 := hbx.cell 1
   have hcell2 := hbx.cell 2
   simp only [OpGoal]
   go_simp
   exact ⟨_, rfl, Ext.refl _, rfl⟩
  case o2 =>
   intro f w2 hG hp hl
   have hE : Ext w1 w2 := hG
   have hS := hE.size
   change OpGoal _ _ _ f w2 Ext _
   exact og_load (P := Try.prog) _ _ w.heap.size _ _ _ rfl rfl rfl (b1.ext hE) Try.underlying28 rfl (by kernel_rfl) rfl
  case o3 =>
   intro f w2 hG hp hl
   have hE : Ext w1 w2 := hG
   have hS := hE.size
   have q5 : f 2 = .agg #[.bool bx, sx, tx] := tellV hp 0 2 rfl rfl (fun h => by cases h)
   change OpGoal _ _ _ f w2 Ext _
   refine og_call (P := Try.prog) _ _ _ #[f 2] Try.func73 (by kernel_rfl) (by kernel_rfl) rfl rfl (by kernel_rfl) ?_
   rw [q5]
   refine (under_calls _ nx dx _ (Qx.out.ext (e1.trans hE))).mono ?_
   rintro e w' ⟨v', rfl, h1, h2⟩
   exact ⟨v', rfl, h2, h1⟩
  case o4 =>
   intro f w2 hG hp hl
   have hE : Ext w1 w2 := hG
   have hS := hE.size
   have q4 : f 1 = .agg #[.bool bx, sx] := tellV hp 0 1 rfl rfl (fun h => by cases h)
   have q6 := tellV hp 1 3 rfl rfl (fun _ => hE)
   change OpGoal _ _ _ f w2 Ext _
   refine og_call (P := Try.prog) _ _ _ #[f 1, f 3] Try.func62 (by kernel_rfl) (by kernel_rfl) rfl rfl (by kernel_rfl) ?_
   rw [q4]
   refine (lowest_calls _ _ nx dx _ (Zx.out.ext (e1.trans hE)) q6 hpx (by omega) (by omega)).mono ?_
   rintro e w' ⟨v', rfl, h1, h2⟩
   exact ⟨v', rfl, h2, h1.mono hS⟩
  case o5 =>
   intro f w2 hG hp hl
   have hE : Ext w1 w2 := hG
   have hS := hE.size
   have q7 := tellV hp 0 4 rfl rfl (fun _ => hE)
   intro hg0
   change OpGoal _ _ _ f w2 (Chg _) _
   obtain ⟨s', t', hv, hn, hm⟩ := q7
   exact og_store (P := Try.prog) _ _ _ (w.heap.size + 1) _ _ _ (PP.frQ _ : PP _).p rfl rfl rfl hv (show Bx 28 w2 _ _ from hg0.trans b2) (by kernel_rfl) rfl (all3 rfl hn.oneCell hm.oneCell) (fun w' h => ⟨s', t', rfl, hn.chg h (by omega), hm.chg h (by omega)⟩)
 ·intro f w2 hG hp
  obtain ⟨cs0, hbx0, hz0⟩ : ∃ cs, Bx 28 w2 (w.heap.size + 1) cs ∧ (PP.frQ (mkRat nx dx) : PP w1.heap.size).p (.agg cs) w2 := endS hp 5 (by decide)
  clear hp
  have hz1 := hz0.mono (show w.heap.size ≤ _ by omega)
  obtain ⟨s', t', hvv, hnn, hmm⟩ := hz0
  cases hvv
  go_wp2
  refine ret_box 2 28 (w.heap.size + 1) 28 _ _ (by kernel_rfl) rfl hbx0 Try.underlying28 rfl (by kernel_rfl) rfl ?_
  exact ⟨_, rfl, hz1, e1.stepS hG (by simp)⟩
theorem rsign_calls (v : Value) (x : Rat) (k : Nat) (w : World) (hv : IsR w v x k) :
  Calls Try.prog 49 #[v] w fun e w' => e = .returned (.int .i64 x.num.sign) ∧ Ext w w' := by
 obtain ⟨nx, dx, hqx, rfl, knx, kdx⟩ := hv
 have hpx := hqx.pos
 have Qx := Lib.hid hqx
 obtain ⟨bx, sx, tx, mx, d0x, rfl, hsx, hnx, htx, hdx⟩ := hqx
 have Zx := Lib.hid (show IsZ w (.agg #[.bool bx, sx]) nx from ⟨_, _, _, rfl, hsx, hnx⟩)
 clear hnx hdx
 go_enter Try.func49, Try.ntmps49
 obtain ⟨w1, hw1, e1, b1, s1⟩ := alloc1 w #[.bool bx, sx, tx] 28
 have hc0 := b1.cell 0
 have hc1 := b1.cell 1
 have hc2 := b1.cell 2
 rw [hw1] at hc0 hc1 hc2
 go_wp2_with fail
 rw [← hw1]
 refine (zsign_calls _ nx _ (Zx.out.ext e1)).mono ?_
 rintro e w2 ⟨rfl, e2⟩
 go_wp2
 go_ret
 exact ⟨by rw [mkRat_sign nx dx hpx]; rfl, e1.trans e2⟩
end Go.Proofs.Ytdmjgjcljbogiaa
