/-
 rat's functions, walked (III): comparison, sums, differences, products, quotients.
-/
import Derived.Test.YtdmjgjcljbogiaaRatB
namespace Go.Proofs.Ytdmjgjcljbogiaa
set_option maxRecDepth 100000
set_option maxHeartbeats 1000000
open Go.RowKit
set_option linter.unusedVariables false
set_option linter.unusedSimpArgs false
theorem radd_calls (v u : Value) (x y : Rat) (k l : Nat) (w : World) (hv : IsR w v x k) (hu : IsR w u y l) (hkl : k + l ≤ 68719476730) :
  Calls Try.prog 40 #[v, u] w fun e w' => ∃ v', e = .returned v' ∧ FrQ w.heap.size w' v' (x + y) ∧ szQ (x + y) ≤ k + l + 1 ∧ Ext w w' := by
 obtain ⟨nx, dx, hqx, rfl, knx, kdx⟩ := hv
 have hpx := hqx.pos
 have Qx := Lib.hid hqx
 obtain ⟨bx, sx, tx, mx, d0x, rfl, hsx, hnx, htx, hdx⟩ := hqx
 have Zx := Lib.hid (show IsZ w (.agg #[.bool bx, sx]) nx from ⟨_, _, _, rfl, hsx, hnx⟩)
 clear hnx hdx
 obtain ⟨ny, dy, hqy, rfl, kny, kdy⟩ := hu
 have hpy := hqy.pos
 have Qy := Lib.hid hqy
 obtain ⟨by_, sy, ty, my, d0y, rfl, hsy, hny, hty, hdy⟩ := hqy
 have Zy := Lib.hid (show IsZ w (.agg #[.bool by_, sy]) ny from ⟨_, _, _, rfl, hsy, hny⟩)
 clear hny hdy
 have sxy := szZ_mul nx dy
 have syx := szZ_mul ny dx
 have s1' : szZ (dx : Int) = sz W dx := rfl
 have s2' : szZ (dy : Int) = sz W dy := rfl
 have sad := szZ_add (nx * dy) (ny * dx)
 have sdd := sz_mul dx dy
 have hpd := Nat.mul_pos hpx hpy
 have hsum : mkRat nx dx + mkRat ny dy = mkRat (nx * dy + ny * dx) (dx * dy) := Rat.mkRat_add_mkRat _ _ (by omega) (by omega)
 have hss := szQ_mkRat (nx * dy + ny * dx) (dx * dy) hpd
 have hsz : szQ (mkRat (nx * dy + ny * dx) (dx * dy)) ≤ k + l + 1 := by exact Nat.max_le.2 ⟨by omega, by omega⟩
 have Hsum := Lib.hid hsum
 have Hsz := Lib.hid hsz
 clear hsum hsz
 go_enter Try.func40, Try.ntmps40
 go_wp2_with fail
 obtain ⟨w1, hw1, e1, b1, b2, b3, s1⟩ := alloc3 w #[.bool bx, sx, tx] #[.bool by_, sy, ty] #[.bool false, .slice none 0 0, .slice none 0 0] 28 28 28
 rw [← hw1]
 clear hw1
 refine wp_region_puts [⟨15, (w.heap.size + 2), 28, PP.frQ (mkRat (nx * dy + ny * dx) (dx * dy))⟩] [PP.val (.agg #[.bool bx, sx, tx]), PP.val (.agg #[.bool by_, sy, ty]), PP.isN .u64 W dy, PP.frZ (nx * dy), PP.val (.agg #[.bool by_, sy, ty]), PP.val (.agg #[.bool bx, sx, tx]), PP.isN .u64 W dx, PP.frZ (ny * dx), PP.frZ (nx * dy + ny * dx), PP.val (.agg #[.bool bx, sx, tx]), PP.isN .u64 W dx, PP.val (.agg #[.bool by_, sy, ty]), PP.isN .u64 W dy, PP.frN 88 .u64 W (dx * dy), PP.frQ (mkRat (nx * dy + ny * dx) (dx * dy)), PP.any] [] [15, 14, 13, 12, 11, 10, 9, 8, 7, 6, 5, 4, 3, 2, 1, 0]
  (by kernel_rfl) (by kernel_rfl) (fun f => (by simp only [fillR, fillL, List.setIfInBounds_toArray, List.set_cons_succ, List.set_cons_zero, Nat.reduceAdd]; rfl)) ?_ ?_ ?_ ?_ ?_
 ·intro x hx; simp only [List.mem_singleton] at hx; subst hx; exact ⟨by show (w.heap.size + 2) < w1.heap.size; omega, rfl⟩
 ·intro x hx; simp only [List.mem_singleton] at hx; subst hx; rfl
 ·intro x hx y hy h; simp only [List.mem_singleton] at hx hy; subst hx hy; exact absurd rfl h
 ·refine ⟨?o0, ?o1, ?o2, ?o3, ?o4, ?o5, ?o6, ?o7, ?o8, ?o9, ?o10, ?o11, ?o12, ?o13, ?o14, ?o15, trivial⟩
  case o0 =>
   intro f w2 hG hp hl
   have hE : Ext w1 w2 := hG
   have hS := hE.size
   change OpGoal _ _ _ f w2 Ext _
   exact og_load (P := Try.prog) _ _ w.heap.size _ _ _ rfl rfl rfl (b1.ext hE) Try.underlying28 rfl (by kernel_rfl) rfl
  case o1 =>
   intro f w2 hG hp hl
   have hE : Ext w1 w2 := hG
   have hS := hE.size
   change OpGoal _ _ _ f w2 Ext _
   exact og_load (P := Try.prog) _ _ (w.heap.size + 1) _ _ _ rfl rfl rfl (b2.ext hE) Try.underlying28 rfl (by kernel_rfl) rfl
  case o2 =>
   intro f w2 hG hp hl
   have hE : Ext w1 w2 := hG
   have hS := hE.size
   have q6 : f 1 = .agg #[.bool by_, sy, ty] := tellV hp 0 1 rfl rfl (fun h => by cases h)
   change OpGoal _ _ _ f w2 Ext _
   refine og_call (P := Try.prog) _ _ _ #[f 1] Try.func73 (by kernel_rfl) (by kernel_rfl) rfl rfl (by kernel_rfl) ?_
   rw [q6]
   refine (under_calls _ ny dy _ (Qy.out.ext (e1.trans hE))).mono ?_
   rintro e w' ⟨v', rfl, h1, h2⟩
   exact ⟨v', rfl, h2, h1⟩
  case o3 =>
   intro f w2 hG hp hl
   have hE : Ext w1 w2 := hG
   have hS := hE.size
   have q5 : f 0 = .agg #[.bool bx, sx, tx] := tellV hp 0 0 rfl rfl (fun h => by cases h)
   have q7 := tellV hp 1 2 rfl rfl (fun _ => hE)
   change OpGoal _ _ _ f w2 Ext _
   refine og_call (P := Try.prog) _ _ _ #[f 0, f 2] Try.func78 (by kernel_rfl) (by kernel_rfl) rfl rfl (by kernel_rfl) ?_
   rw [q5]
   refine (over_calls _ _ nx dx dy _ (Qx.out.ext (e1.trans hE)) q7 (by omega)).mono ?_
   rintro e w' ⟨v', rfl, h1, h2⟩
   exact ⟨v', rfl, h2, h1.mono hS⟩
  case o4 =>
   intro f w2 hG hp hl
   have hE : Ext w1 w2 := hG
   have hS := hE.size
   change OpGoal _ _ _ f w2 Ext _
   exact og_load (P := Try.prog) _ _ (w.heap.size + 1) _ _ _ rfl rfl rfl (b2.ext hE) Try.underlying28 rfl (by kernel_rfl) rfl
  case o5 =>
   intro f w2 hG hp hl
   have hE : Ext w1 w2 := hG
   have hS := hE.size
   change OpGoal _ _ _ f w2 Ext _
   exact og_load (P := Try.prog) _ _ w.heap.size _ _ _ rfl rfl rfl (b1.ext hE) Try.underlying28 rfl (by kernel_rfl) rfl
  case o6 =>
   intro f w2 hG hp hl
   have hE : Ext w1 w2 := hG
   have hS := hE.size
   have q10 : f 5 = .agg #[.bool bx, sx, tx] := tellV hp 0 5 rfl rfl (fun h => by cases h)
   change OpGoal _ _ _ f w2 Ext _
   refine og_call (P := Try.prog) _ _ _ #[f 5] Try.func73 (by kernel_rfl) (by kernel_rfl) rfl rfl (by kernel_rfl) ?_
   rw [q10]
   refine (under_calls _ nx dx _ (Qx.out.ext (e1.trans hE))).mono ?_
   rintro e w' ⟨v', rfl, h1, h2⟩
   exact ⟨v', rfl, h2, h1⟩
  case o7 =>
   intro f w2 hG hp hl
   have hE : Ext w1 w2 := hG
   have hS := hE.size
   have q9 : f 4 = .agg #[.bool by_, sy, ty] := tellV hp 0 4 rfl rfl (fun h => by cases h)
   have q11 := tellV hp 1 6 rfl rfl (fun _ => hE)
   change OpGoal _ _ _ f w2 Ext _
   refine og_call (P := Try.prog) _ _ _ #[f 4, f 6] Try.func78 (by kernel_rfl) (by kernel_rfl) rfl rfl (by kernel_rfl) ?_
   rw [q9]
   refine (over_calls _ _ ny dy dx _ (Qy.out.ext (e1.trans hE)) q11 (by omega)).mono ?_
   rintro e w' ⟨v', rfl, h1, h2⟩
   exact ⟨v', rfl, h2, h1.mono hS⟩
  case o8 =>
   intro f w2 hG hp hl
   have hE : Ext w1 w2 := hG
   have hS := hE.size
   have q8 := tellV hp 0 3 rfl rfl (fun _ => hE)
   have q12 := tellV hp 1 7 rfl rfl (fun _ => hE)
   change OpGoal _ _ _ f w2 Ext _
   refine og_call (P := Try.prog) _ _ _ #[f 3, f 7] Try.func80 (by kernel_rfl) (by kernel_rfl) rfl rfl (by kernel_rfl) ?_
   refine (zadd_calls _ _ (nx * dy) (ny * dx) _ (q8.isZ (by rw [LIM_eq]; omega)) (q12.isZ (by rw [LIM_eq]; omega)) (by omega) (by omega)).mono ?_
   rintro e w' ⟨v', rfl, h1, h2⟩
   exact ⟨v', rfl, h2, h1.mono hS⟩
  case o9 =>
   intro f w2 hG hp hl
   have hE : Ext w1 w2 := hG
   have hS := hE.size
   change OpGoal _ _ _ f w2 Ext _
   exact og_load (P := Try.prog) _ _ w.heap.size _ _ _ rfl rfl rfl (b1.ext hE) Try.underlying28 rfl (by kernel_rfl) rfl
  case o10 =>
   intro f w2 hG hp hl
   have hE : Ext w1 w2 := hG
   have hS := hE.size
   have q14 : f 9 = .agg #[.bool bx, sx, tx] := tellV hp 0 9 rfl rfl (fun h => by cases h)
   change OpGoal _ _ _ f w2 Ext _
   refine og_call (P := Try.prog) _ _ _ #[f 9] Try.func73 (by kernel_rfl) (by kernel_rfl) rfl rfl (by kernel_rfl) ?_
   rw [q14]
   refine (under_calls _ nx dx _ (Qx.out.ext (e1.trans hE))).mono ?_
   rintro e w' ⟨v', rfl, h1, h2⟩
   exact ⟨v', rfl, h2, h1⟩
  case o11 =>
   intro f w2 hG hp hl
   have hE : Ext w1 w2 := hG
   have hS := hE.size
   change OpGoal _ _ _ f w2 Ext _
   exact og_load (P := Try.prog) _ _ (w.heap.size + 1) _ _ _ rfl rfl rfl (b2.ext hE) Try.underlying28 rfl (by kernel_rfl) rfl
  case o12 =>
   intro f w2 hG hp hl
   have hE : Ext w1 w2 := hG
   have hS := hE.size
   have q16 : f 11 = .agg #[.bool by_, sy, ty] := tellV hp 0 11 rfl rfl (fun h => by cases h)
   change OpGoal _ _ _ f w2 Ext _
   refine og_call (P := Try.prog) _ _ _ #[f 11] Try.func73 (by kernel_rfl) (by kernel_rfl) rfl rfl (by kernel_rfl) ?_
   rw [q16]
   refine (under_calls _ ny dy _ (Qy.out.ext (e1.trans hE))).mono ?_
   rintro e w' ⟨v', rfl, h1, h2⟩
   exact ⟨v', rfl, h2, h1⟩
  case o13 =>
   intro f w2 hG hp hl
   have hE : Ext w1 w2 := hG
   have hS := hE.size
   have q15 := tellV hp 0 10 rfl rfl (fun _ => hE)
   have q17 := tellV hp 1 12 rfl rfl (fun _ => hE)
   change OpGoal _ _ _ f w2 Ext _
   refine og_call (P := Try.prog) _ _ _ #[f 10, f 12] Try.func81 (by kernel_rfl) (by kernel_rfl) rfl rfl (by kernel_rfl) ?_
   refine (mul_calls dx dy _ _ _ (by omega) q15 q17).mono ?_
   rintro e w' ⟨v', rfl, h1, h2⟩
   exact ⟨v', rfl, h2, h1.mono hS⟩
  case o14 =>
   intro f w2 hG hp hl
   have hE : Ext w1 w2 := hG
   have hS := hE.size
   have q13 := tellV hp 0 8 rfl rfl (fun _ => hE)
   have q18 := tellV hp 1 13 rfl rfl (fun _ => hE)
   change OpGoal _ _ _ f w2 Ext _
   refine og_call (P := Try.prog) _ _ _ #[f 8, f 13] Try.func62 (by kernel_rfl) (by kernel_rfl) rfl rfl (by kernel_rfl) ?_
   refine (lowest_calls _ _ (nx * dy + ny * dx) (dx * dy) _ (q13.isZ (by rw [LIM_eq]; omega)) (q18.isC.isN W_gt (by rw [LIM_eq]; omega)) hpd (by omega) (by omega)).mono ?_
   rintro e w' ⟨v', rfl, h1, h2⟩
   exact ⟨v', rfl, h2, h1.mono hS⟩
  case o15 =>
   intro f w2 hG hp hl
   have hE : Ext w1 w2 := hG
   have hS := hE.size
   have q19 := tellV hp 0 14 rfl rfl (fun _ => hE)
   intro hg0
   change OpGoal _ _ _ f w2 (Chg _) _
   obtain ⟨s', t', hv, hn, hm⟩ := q19
   exact og_store (P := Try.prog) _ _ _ (w.heap.size + 2) _ _ _ (PP.frQ _ : PP _).p rfl rfl rfl hv (show Bx 28 w2 _ _ from hg0.trans b3) (by kernel_rfl) rfl (all3 rfl hn.oneCell hm.oneCell) (fun w' h => ⟨s', t', rfl, hn.chg h (by omega), hm.chg h (by omega)⟩)
 ·intro f w2 hG hp
  obtain ⟨cs0, hbx0, hz0⟩ : ∃ cs, Bx 28 w2 (w.heap.size + 2) cs ∧ (PP.frQ (mkRat (nx * dy + ny * dx) (dx * dy)) : PP w1.heap.size).p (.agg cs) w2 := endS hp 15 (by decide)
  clear hp
  have hz1 := hz0.mono (show w.heap.size ≤ _ by omega)
  obtain ⟨s', t', hvv, hnn, hmm⟩ := hz0
  cases hvv
  go_wp2
  refine ret_box 4 28 (w.heap.size + 2) 28 _ _ (by kernel_rfl) rfl hbx0 Try.underlying28 rfl (by kernel_rfl) rfl ?_
  rw [Hsum.out]
  exact ⟨_, rfl, hz1, Hsz.out, e1.stepS hG (by simp)⟩
theorem rmul_calls (v u : Value) (x y : Rat) (k l : Nat) (w : World) (hv : IsR w v x k) (hu : IsR w u y l) (hkl : k + l ≤ 68719476730) :
  Calls Try.prog 42 #[v, u] w fun e w' => ∃ v', e = .returned v' ∧ FrQ w.heap.size w' v' (x * y) ∧ szQ (x * y) ≤ k + l ∧ Ext w w' := by
 obtain ⟨nx, dx, hqx, rfl, knx, kdx⟩ := hv
 have hpx := hqx.pos
 have Qx := Lib.hid hqx
 obtain ⟨bx, sx, tx, mx, d0x, rfl, hsx, hnx, htx, hdx⟩ := hqx
 have Zx := Lib.hid (show IsZ w (.agg #[.bool bx, sx]) nx from ⟨_, _, _, rfl, hsx, hnx⟩)
 clear hnx hdx
 obtain ⟨ny, dy, hqy, rfl, kny, kdy⟩ := hu
 have hpy := hqy.pos
 have Qy := Lib.hid hqy
 obtain ⟨by_, sy, ty, my, d0y, rfl, hsy, hny, hty, hdy⟩ := hqy
 have Zy := Lib.hid (show IsZ w (.agg #[.bool by_, sy]) ny from ⟨_, _, _, rfl, hsy, hny⟩)
 clear hny hdy
 have sxy := szZ_mul nx ny
 have sdd := sz_mul dx dy
 have hpd := Nat.mul_pos hpx hpy
 have hsum : mkRat nx dx * mkRat ny dy = mkRat (nx * ny) (dx * dy) := Rat.mkRat_mul_mkRat _ _ _ _
 have hss := szQ_mkRat (nx * ny) (dx * dy) hpd
 have hsz : szQ (mkRat (nx * ny) (dx * dy)) ≤ k + l := by exact Nat.max_le.2 ⟨by omega, by omega⟩
 have Hsum := Lib.hid hsum
 have Hsz := Lib.hid hsz
 clear hsum hsz
 go_enter Try.func42, Try.ntmps42
 go_wp2_with fail
 obtain ⟨w1, hw1, e1, b1, b2, b3, s1⟩ := alloc3 w #[.bool bx, sx, tx] #[.bool by_, sy, ty] #[.bool false, .slice none 0 0, .slice none 0 0] 28 28 28
 rw [← hw1]
 clear hw1
 refine wp_region_puts [⟨11, (w.heap.size + 2), 28, PP.frQ (mkRat (nx * ny) (dx * dy))⟩] [PP.val (.pointer (some ⟨w.heap.size, 0, none⟩)), PP.val (.agg #[.bool bx, sx]), PP.val (.pointer (some ⟨(w.heap.size + 1), 0, none⟩)), PP.val (.agg #[.bool by_, sy]), PP.frZ (nx * ny), PP.val (.agg #[.bool bx, sx, tx]), PP.isN .u64 W dx, PP.val (.agg #[.bool by_, sy, ty]), PP.isN .u64 W dy, PP.frN 88 .u64 W (dx * dy), PP.frQ (mkRat (nx * ny) (dx * dy)), PP.any] [] [11, 10, 9, 8, 7, 6, 5, 4, 3, 2, 1, 0]
  (by kernel_rfl) (by kernel_rfl) (fun f => (by simp only [fillR, fillL, List.setIfInBounds_toArray, List.set_cons_succ, List.set_cons_zero, Nat.reduceAdd]; rfl)) ?_ ?_ ?_ ?_ ?_
 ·intro x hx; simp only [List.mem_singleton] at hx; subst hx; exact ⟨by show (w.heap.size + 2) < w1.heap.size; omega, rfl⟩
 ·intro x hx; simp only [List.mem_singleton] at hx; subst hx; rfl
 ·intro x hx y hy h; simp only [List.mem_singleton] at hx hy; subst hx hy; exact absurd rfl h
 ·refine ⟨?o0, ?o1, ?o2, ?o3, ?o4, ?o5, ?o6, ?o7, ?o8, ?o9, ?o10, ?o11, trivial⟩
  case o0 =>
   intro f w2 hG hp hl
   have hE : Ext w1 w2 := hG
   have hS := hE.size
   simp only [OpGoal]
   go_simp
   exact ⟨_, rfl, Ext.refl _, rfl⟩
  case o1 =>
   intro f w2 hG hp hl
   have hE : Ext w1 w2 := hG
   have hS := hE.size
   have q5 : f 0 = .pointer (some ⟨w.heap.size, 0, none⟩) := tellV hp 0 0 rfl rfl (fun h => by cases h)
   have hbx := b1.ext hE
   have hcell0 := hbx.cell 0
   have hcell1 := hbx.cell 1
   have hcell2 := hbx.cell 2
   simp only [OpGoal]
   go_simp
   exact ⟨_, rfl, Ext.refl _, rfl⟩
  case o2 =>
   intro f w2 hG hp hl
   have hE : Ext w1 w2 := hG
   have hS := hE.size
   simp only [OpGoal]
   go_simp
   exact ⟨_, rfl, Ext.refl _, rfl⟩
  case o3 =>
   intro f w2 hG hp hl
   have hE : Ext w1 w2 := hG
   have hS := hE.size
   have q7 : f 2 = .pointer (some ⟨(w.heap.size + 1), 0, none⟩) := tellV hp 0 2 rfl rfl (fun h => by cases h)
   have hbx := b2.ext hE
   have hcell0 := hbx.cell 0
   have hcell1 := hbx.cell 1
   have hcell2 := hbx.cell 2
   simp only [OpGoal]
   go_simp
   exact ⟨_, rfl, Ext.refl _, rfl⟩
  case o4 =>
   intro f w2 hG hp hl
   have hE : Ext w1 w2 := hG
   have hS := hE.size
   have q6 : f 1 = .agg #[.bool bx, sx] := tellV hp 0 1 rfl rfl (fun h => by cases h)
   have q8 : f 3 = .agg #[.bool by_, sy] := tellV hp 1 3 rfl rfl (fun h => by cases h)
   change OpGoal _ _ _ f w2 Ext _
   refine og_call (P := Try.prog) _ _ _ #[f 1, f 3] Try.func82 (by kernel_rfl) (by kernel_rfl) rfl rfl (by kernel_rfl) ?_
   rw [q6, q8]
   refine (zmul_calls _ _ nx ny _ (Zx.out.ext (e1.trans hE)) (Zy.out.ext (e1.trans hE)) (by omega)).mono ?_
   rintro e w' ⟨v', rfl, h1, h2⟩
   exact ⟨v', rfl, h2, h1.mono hS⟩
  case o5 =>
   intro f w2 hG hp hl
   have hE : Ext w1 w2 := hG
   have hS := hE.size
   change OpGoal _ _ _ f w2 Ext _
   exact og_load (P := Try.prog) _ _ w.heap.size _ _ _ rfl rfl rfl (b1.ext hE) Try.underlying28 rfl (by kernel_rfl) rfl
  case o6 =>
   intro f w2 hG hp hl
   have hE : Ext w1 w2 := hG
   have hS := hE.size
   have q10 : f 5 = .agg #[.bool bx, sx, tx] := tellV hp 0 5 rfl rfl (fun h => by cases h)
   change OpGoal _ _ _ f w2 Ext _
   refine og_call (P := Try.prog) _ _ _ #[f 5] Try.func73 (by kernel_rfl) (by kernel_rfl) rfl rfl (by kernel_rfl) ?_
   rw [q10]
   refine (under_calls _ nx dx _ (Qx.out.ext (e1.trans hE))).mono ?_
   rintro e w' ⟨v', rfl, h1, h2⟩
   exact ⟨v', rfl, h2, h1⟩
  case o7 =>
   intro f w2 hG hp hl
   have hE : Ext w1 w2 := hG
   have hS := hE.size
   change OpGoal _ _ _ f w2 Ext _
   exact og_load (P := Try.prog) _ _ (w.heap.size + 1) _ _ _ rfl rfl rfl (b2.ext hE) Try.underlying28 rfl (by kernel_rfl) rfl
  case o8 =>
   intro f w2 hG hp hl
   have hE : Ext w1 w2 := hG
   have hS := hE.size
   have q12 : f 7 = .agg #[.bool by_, sy, ty] := tellV hp 0 7 rfl rfl (fun h => by cases h)
   change OpGoal _ _ _ f w2 Ext _
   refine og_call (P := Try.prog) _ _ _ #[f 7] Try.func73 (by kernel_rfl) (by kernel_rfl) rfl rfl (by kernel_rfl) ?_
   rw [q12]
   refine (under_calls _ ny dy _ (Qy.out.ext (e1.trans hE))).mono ?_
   rintro e w' ⟨v', rfl, h1, h2⟩
   exact ⟨v', rfl, h2, h1⟩
  case o9 =>
   intro f w2 hG hp hl
   have hE : Ext w1 w2 := hG
   have hS := hE.size
   have q11 := tellV hp 0 6 rfl rfl (fun _ => hE)
   have q13 := tellV hp 1 8 rfl rfl (fun _ => hE)
   change OpGoal _ _ _ f w2 Ext _
   refine og_call (P := Try.prog) _ _ _ #[f 6, f 8] Try.func81 (by kernel_rfl) (by kernel_rfl) rfl rfl (by kernel_rfl) ?_
   refine (mul_calls dx dy _ _ _ (by omega) q11 q13).mono ?_
   rintro e w' ⟨v', rfl, h1, h2⟩
   exact ⟨v', rfl, h2, h1.mono hS⟩
  case o10 =>
   intro f w2 hG hp hl
   have hE : Ext w1 w2 := hG
   have hS := hE.size
   have q9 := tellV hp 0 4 rfl rfl (fun _ => hE)
   have q14 := tellV hp 1 9 rfl rfl (fun _ => hE)
   change OpGoal _ _ _ f w2 Ext _
   refine og_call (P := Try.prog) _ _ _ #[f 4, f 9] Try.func62 (by kernel_rfl) (by kernel_rfl) rfl rfl (by kernel_rfl) ?_
   refine (lowest_calls _ _ (nx * ny) (dx * dy) _ (q9.isZ (by rw [LIM_eq]; omega)) (q14.isC.isN W_gt (by rw [LIM_eq]; omega)) hpd (by omega) (by omega)).mono ?_
   rintro e w' ⟨v', rfl, h1, h2⟩
   exact ⟨v', rfl, h2, h1.mono hS⟩
  case o11 =>
   intro f w2 hG hp hl
   have hE : Ext w1 w2 := hG
   have hS := hE.size
   have q15 := tellV hp 0 10 rfl rfl (fun _ => hE)
   intro hg0
   change OpGoal _ _ _ f w2 (Chg _) _
   obtain ⟨s', t', hv, hn, hm⟩ := q15
   exact og_store (P := Try.prog) _ _ _ (w.heap.size + 2) _ _ _ (PP.frQ _ : PP _).p rfl rfl rfl hv (show Bx 28 w2 _ _ from hg0.trans b3) (by kernel_rfl) rfl (all3 rfl hn.oneCell hm.oneCell) (fun w' h => ⟨s', t', rfl, hn.chg h (by omega), hm.chg h (by omega)⟩)
 ·intro f w2 hG hp
  obtain ⟨cs0, hbx0, hz0⟩ : ∃ cs, Bx 28 w2 (w.heap.size + 2) cs ∧ (PP.frQ (mkRat (nx * ny) (dx * dy)) : PP w1.heap.size).p (.agg cs) w2 := endS hp 11 (by decide)
  clear hp
  have hz1 := hz0.mono (show w.heap.size ≤ _ by omega)
  obtain ⟨s', t', hvv, hnn, hmm⟩ := hz0
  cases hvv
  go_wp2
  refine ret_box 4 28 (w.heap.size + 2) 28 _ _ (by kernel_rfl) rfl hbx0 Try.underlying28 rfl (by kernel_rfl) rfl ?_
  rw [Hsum.out]
  exact ⟨_, rfl, hz1, Hsz.out, e1.stepS hG (by simp)⟩
end Go.Proofs.Ytdmjgjcljbogiaa
