/-
  rat's functions, walked (III): comparison, sums, differences, products, quotients.
-/
import Derived.Test.YtnefipinicfegaaRatB
namespace Go.Proofs.Ytnefipinicfegaa
open Go.RowKit
set_option linter.unusedVariables false
set_option linter.unusedSimpArgs false

/-- -1, 0 or 1, as x is less than y, y, or greater. -/
def cmpR (x y : Rat) : Int := if x < y then -1 else if x = y then 0 else 1
set_option maxRecDepth 100000 in
theorem sub_mkRat (n m : Int) (d e : Nat) (hd : 0 < d) (he : 0 < e) : mkRat n d - mkRat m e = mkRat (n * e - m * d) (d * e) := by
  rw [Rat.sub_eq_add_neg, Rat.neg_mkRat, Rat.mkRat_add_mkRat _ _ (by omega) (by omega), Int.sub_eq_add_neg, Int.neg_mul]
set_option maxRecDepth 100000 in
theorem num_sign (x y : Rat) : (x - y).num.sign = cmpR x y := by
  unfold cmpR
  have h1 : (x - y).num < 0 ↔ x < y := by
    have e : (x - y).num = -(y - x).num := by rw [← Rat.neg_sub, Rat.neg_num]
    rw [Rat.lt_iff_sub_pos, e, Rat.lt_iff_le_and_ne, ← Rat.num_nonneg]
    have h0 := @Rat.num_eq_zero (y - x)
    constructor
    · intro h; exact ⟨by omega, fun h1 => by have := h0.2 h1.symm; omega⟩
    · rintro ⟨h1, h2⟩
      have : (y - x).num ≠ 0 := fun h => h2 (h0.1 h).symm
      omega
  have h2 : (x - y).num = 0 ↔ x = y := by
    rw [Rat.num_eq_zero]
    constructor
    · intro h; have := congrArg (· + y) h; simpa [Rat.sub_add_cancel, Rat.zero_add] using this
    · rintro rfl; exact Rat.sub_self
  have := sign_cases (x - y).num
  split
  · rename_i h; have := h1.2 h; omega
  · split
    · rename_i h; have := h2.2 h; omega
    · rename_i h3 h4
      have a1 := mt h1.1 h3
      have a2 := mt h2.1 h4
      omega
set_option maxRecDepth 100000 in
theorem cmp_mkRat (n m : Int) (d e : Nat) (hd : 0 < d) (he : 0 < e) : (n * e - m * d).sign = cmpR (mkRat n d) (mkRat m e) := by
  rw [← num_sign, sub_mkRat n m d e hd he, mkRat_sign _ _ (Nat.mul_pos hd he)]

set_option maxRecDepth 100000 in
theorem rcmp2_calls (v u : Value) (x y : Rat) (ka kb kc kd : Nat) (w : World) (hv : IsS w v x ka kb) (hu : IsS w u y kc kd) (hk1 : ka + kd ≤ 17592186044096) (hk2 : kc + kb ≤ 17592186044096) :
    Calls Try.prog 41 #[v, u] w fun e w' => e = .returned (.int .i64 (cmpR x y)) ∧ Ext w w' := by
  obtain ⟨nx, dx, hqx, rfl, knx, kdx⟩ := hv
  have hpx := hqx.pos
  have Qx := Lib.hid hqx
  obtain ⟨bx, sx, tx, mx, d0x, rfl, hsx, hnx, htx, hdx⟩ := hqx
  have Zx := Lib.hid (show IsZ w (.agg #[.bool bx, sx]) nx from ⟨_, _, _, rfl, hsx, hnx⟩)
  clear hnx hdx
  obtain ⟨ny, dy, hqy, rfl, kny, kdy⟩ := hu
  have hpy := hqy.pos
  have Qy := Lib.hid hqy
  obtain ⟨by_, sy, ty, my, d0y, rfl, hsy, hny, hty, hdy⟩ := hqy
  have Zy := Lib.hid (show IsZ w (.agg #[.bool by_, sy]) ny from ⟨_, _, _, rfl, hsy, hny⟩)
  clear hny hdy
  have sxy := szZ_mul nx dy
  have syx := szZ_mul ny dx
  have s1' : szZ (dx : Int) = sz W dx := rfl
  have s2' : szZ (dy : Int) = sz W dy := rfl
  go_enter Try.func41, Try.ntmps41
  go_wp2_with fail
  obtain ⟨w1, hw1, e1, b1, b2, s1⟩ := alloc2 w #[.bool bx, sx, tx] #[.bool by_, sy, ty] 28 28
  rw [← hw1]
  clear hw1
  refine wp_region_puts [] [PP.val (.agg #[.bool bx, sx, tx]), PP.val (.agg #[.bool by_, sy, ty]), PP.isN .u64 W dy, PP.frZ (nx * dy), PP.val (.agg #[.bool by_, sy, ty]), PP.val (.agg #[.bool bx, sx, tx]), PP.isN .u64 W dx, PP.frZ (ny * dx), PP.val (.int .i64 (nx * dy - ny * dx).sign), PP.val (.int .i64 (nx * dy - ny * dx).sign)] [] [0, 1, 2, 3, 4, 5, 6, 7, 8, 9]
    (by kernel_rfl) (by kernel_rfl) (fun f => (by simp only [fillR, fillL, List.setIfInBounds_toArray, List.set_cons_succ, List.set_cons_zero, Nat.reduceAdd]; rfl)) ?_ ?_ ?_ ?_ ?_
  · intro x hx; cases hx
  · intro x hx; cases hx
  · intro x hx; cases hx
  · refine ⟨?o0, ?o1, ?o2, ?o3, ?o4, ?o5, ?o6, ?o7, ?o8, ?o9, trivial⟩
    case o0 =>
      intro f w2 hG hp hl
      have hE : Ext w1 w2 := hG
      have hS := hE.size
      change OpGoal _ _ _ f w2 Ext _
      exact og_load (P := Try.prog) _ _ w.heap.size _ _ _ rfl rfl rfl (b1.ext hE) Try.underlying28 rfl (by kernel_rfl) rfl
    case o1 =>
      intro f w2 hG hp hl
      have hE : Ext w1 w2 := hG
      have hS := hE.size
      change OpGoal _ _ _ f w2 Ext _
      exact og_load (P := Try.prog) _ _ (w.heap.size + 1) _ _ _ rfl rfl rfl (b2.ext hE) Try.underlying28 rfl (by kernel_rfl) rfl
    case o2 =>
      intro f w2 hG hp hl
      have hE : Ext w1 w2 := hG
      have hS := hE.size
      have q6 : f 1 = .agg #[.bool by_, sy, ty] := tellV hp 0 1 rfl rfl (fun h => by cases h)
      change OpGoal _ _ _ f w2 Ext _
      refine og_call (P := Try.prog) _ _ _ #[f 1] Try.func67 (by kernel_rfl) (by kernel_rfl) rfl rfl (by kernel_rfl) ?_
      rw [q6]
      refine (under_calls _ ny dy _ (Qy.out.ext (e1.trans hE))).mono ?_
      rintro e w' ⟨v', rfl, h1, h2⟩
      exact ⟨v', rfl, h2, h1⟩
    case o3 =>
      intro f w2 hG hp hl
      have hE : Ext w1 w2 := hG
      have hS := hE.size
      have q5 : f 0 = .agg #[.bool bx, sx, tx] := tellV hp 0 0 rfl rfl (fun h => by cases h)
      have q7 := tellV hp 1 2 rfl rfl (fun _ => hE)
      change OpGoal _ _ _ f w2 Ext _
      refine og_call (P := Try.prog) _ _ _ #[f 0, f 2] Try.func72 (by kernel_rfl) (by kernel_rfl) rfl rfl (by kernel_rfl) ?_
      rw [q5]
      refine (over_calls _ _ nx dx dy _ (Qx.out.ext (e1.trans hE)) q7 (by omega)).mono ?_
      rintro e w' ⟨v', rfl, h1, h2⟩
      exact ⟨v', rfl, h2, h1.mono hS⟩
    case o4 =>
      intro f w2 hG hp hl
      have hE : Ext w1 w2 := hG
      have hS := hE.size
      change OpGoal _ _ _ f w2 Ext _
      exact og_load (P := Try.prog) _ _ (w.heap.size + 1) _ _ _ rfl rfl rfl (b2.ext hE) Try.underlying28 rfl (by kernel_rfl) rfl
    case o5 =>
      intro f w2 hG hp hl
      have hE : Ext w1 w2 := hG
      have hS := hE.size
      change OpGoal _ _ _ f w2 Ext _
      exact og_load (P := Try.prog) _ _ w.heap.size _ _ _ rfl rfl rfl (b1.ext hE) Try.underlying28 rfl (by kernel_rfl) rfl
    case o6 =>
      intro f w2 hG hp hl
      have hE : Ext w1 w2 := hG
      have hS := hE.size
      have q10 : f 5 = .agg #[.bool bx, sx, tx] := tellV hp 0 5 rfl rfl (fun h => by cases h)
      change OpGoal _ _ _ f w2 Ext _
      refine og_call (P := Try.prog) _ _ _ #[f 5] Try.func67 (by kernel_rfl) (by kernel_rfl) rfl rfl (by kernel_rfl) ?_
      rw [q10]
      refine (under_calls _ nx dx _ (Qx.out.ext (e1.trans hE))).mono ?_
      rintro e w' ⟨v', rfl, h1, h2⟩
      exact ⟨v', rfl, h2, h1⟩
    case o7 =>
      intro f w2 hG hp hl
      have hE : Ext w1 w2 := hG
      have hS := hE.size
      have q9 : f 4 = .agg #[.bool by_, sy, ty] := tellV hp 0 4 rfl rfl (fun h => by cases h)
      have q11 := tellV hp 1 6 rfl rfl (fun _ => hE)
      change OpGoal _ _ _ f w2 Ext _
      refine og_call (P := Try.prog) _ _ _ #[f 4, f 6] Try.func72 (by kernel_rfl) (by kernel_rfl) rfl rfl (by kernel_rfl) ?_
      rw [q9]
      refine (over_calls _ _ ny dy dx _ (Qy.out.ext (e1.trans hE)) q11 (by omega)).mono ?_
      rintro e w' ⟨v', rfl, h1, h2⟩
      exact ⟨v', rfl, h2, h1.mono hS⟩
    case o8 =>
      intro f w2 hG hp hl
      have hE : Ext w1 w2 := hG
      have hS := hE.size
      have q8 := tellV hp 0 3 rfl rfl (fun _ => hE)
      have q12 := tellV hp 1 7 rfl rfl (fun _ => hE)
      change OpGoal _ _ _ f w2 Ext _
      refine og_call (P := Try.prog) _ _ _ #[f 3, f 7] Try.func74 (by kernel_rfl) (by kernel_rfl) rfl rfl (by kernel_rfl) ?_
      refine (zcmp_calls _ _ (nx * dy) (ny * dx) _ (q8.isZ (by rw [LIM_eq]; omega)) (q12.isZ (by rw [LIM_eq]; omega))).mono ?_
      rintro e w' ⟨rfl, h2⟩
      exact ⟨_, rfl, h2, rfl⟩
    case o9 =>
      intro f w2 hG hp hl
      have hE : Ext w1 w2 := hG
      have hS := hE.size
      have q13 : f 8 = .int .i64 (nx * dy - ny * dx).sign := tellV hp 0 8 rfl rfl (fun h => by cases h)
      exact ⟨_, rfl, Ext.refl _, q13⟩
  · intro f w2 hG hp
    have hE : Ext w1 w2 := ChgS.nil hG
    have q4 : f 9 = .int .i64 (nx * dy - ny * dx).sign := endV hp 9 (by decide) rfl (fun h => by cases h)
    clear hp
    go_wp2
    go_ret
    exact ⟨by rw [q4, cmp_mkRat _ _ _ _ hpx hpy]; rfl, e1.trans hE⟩
theorem rcmp_calls (v u : Value) (x y : Rat) (k l : Nat) (w : World) (hv : IsR w v x k) (hu : IsR w u y l) (hkl : k + l ≤ 17592186044096) :
    Calls Try.prog 41 #[v, u] w fun e w' => e = .returned (.int .i64 (cmpR x y)) ∧ Ext w w' :=
  rcmp2_calls v u x y k k l l w hv.isS hu.isS (by omega) (by omega)

set_option maxRecDepth 100000 in
theorem radd2_calls (v u : Value) (x y : Rat) (ka kb kc kd K : Nat) (w : World) (hv : IsS w v x ka kb) (hu : IsS w u y kc kd) (hk1 : ka + kd + 1 ≤ K) (hk2 : kc + kb + 1 ≤ K) (hk3 : kb + kd ≤ K) (hK : K ≤ 17592186044091) :
    Calls Try.prog 43 #[v, u] w fun e w' => ∃ v', e = .returned v' ∧ FrQ w.heap.size w' v' (x + y) ∧ szQ (x + y) ≤ K ∧ Ext w w' := by
  obtain ⟨nx, dx, hqx, rfl, knx, kdx⟩ := hv
  have hpx := hqx.pos
  have Qx := Lib.hid hqx
  obtain ⟨bx, sx, tx, mx, d0x, rfl, hsx, hnx, htx, hdx⟩ := hqx
  have Zx := Lib.hid (show IsZ w (.agg #[.bool bx, sx]) nx from ⟨_, _, _, rfl, hsx, hnx⟩)
  clear hnx hdx
  obtain ⟨ny, dy, hqy, rfl, kny, kdy⟩ := hu
  have hpy := hqy.pos
  have Qy := Lib.hid hqy
  obtain ⟨by_, sy, ty, my, d0y, rfl, hsy, hny, hty, hdy⟩ := hqy
  have Zy := Lib.hid (show IsZ w (.agg #[.bool by_, sy]) ny from ⟨_, _, _, rfl, hsy, hny⟩)
  clear hny hdy
  have sxy := szZ_mul nx dy
  have syx := szZ_mul ny dx
  have s1' : szZ (dx : Int) = sz W dx := rfl
  have s2' : szZ (dy : Int) = sz W dy := rfl
  have sad := szZ_add (nx * dy) (ny * dx)
  have sdd := sz_mul dx dy
  have hpd := Nat.mul_pos hpx hpy
  have hsum : mkRat nx dx + mkRat ny dy = mkRat (nx * dy + ny * dx) (dx * dy) := Rat.mkRat_add_mkRat _ _ (by omega) (by omega)
  have hss := szQ_mkRat (nx * dy + ny * dx) (dx * dy) hpd
  have hsz : szQ (mkRat (nx * dy + ny * dx) (dx * dy)) ≤ K := by exact Nat.max_le.2 ⟨by omega, by omega⟩
  have Hsum := Lib.hid hsum
  have Hsz := Lib.hid hsz
  clear hsum hsz
  go_enter Try.func43, Try.ntmps43
  go_wp2_with fail
  obtain ⟨w1, hw1, e1, b1, b2, b3, s1⟩ := alloc3 w #[.bool bx, sx, tx] #[.bool by_, sy, ty] #[.bool false, .slice none 0 0, .slice none 0 0] 28 28 28
  rw [← hw1]
  clear hw1
  refine wp_region_puts [⟨15, (w.heap.size + 2), 28, PP.frQ (mkRat (nx * dy + ny * dx) (dx * dy))⟩] [PP.val (.agg #[.bool bx, sx, tx]), PP.val (.agg #[.bool by_, sy, ty]), PP.isN .u64 W dy, PP.frZ (nx * dy), PP.val (.agg #[.bool by_, sy, ty]), PP.val (.agg #[.bool bx, sx, tx]), PP.isN .u64 W dx, PP.frZ (ny * dx), PP.frZ (nx * dy + ny * dx), PP.val (.agg #[.bool bx, sx, tx]), PP.isN .u64 W dx, PP.val (.agg #[.bool by_, sy, ty]), PP.isN .u64 W dy, PP.frN 79 .u64 W (dx * dy), PP.frQ (mkRat (nx * dy + ny * dx) (dx * dy)), PP.any] [] [15, 14, 13, 12, 11, 10, 9, 8, 7, 6, 5, 4, 3, 2, 1, 0]
    (by kernel_rfl) (by kernel_rfl) (fun f => (by simp only [fillR, fillL, List.setIfInBounds_toArray, List.set_cons_succ, List.set_cons_zero, Nat.reduceAdd]; rfl)) ?_ ?_ ?_ ?_ ?_
  · intro x hx; simp only [List.mem_singleton] at hx; subst hx; exact ⟨by show (w.heap.size + 2) < w1.heap.size; omega, rfl⟩
  · intro x hx; simp only [List.mem_singleton] at hx; subst hx; rfl
  · intro x hx y hy h; simp only [List.mem_singleton] at hx hy; subst hx hy; exact absurd rfl h
  · refine ⟨?o0, ?o1, ?o2, ?o3, ?o4, ?o5, ?o6, ?o7, ?o8, ?o9, ?o10, ?o11, ?o12, ?o13, ?o14, ?o15, trivial⟩
    case o0 =>
      intro f w2 hG hp hl
      have hE : Ext w1 w2 := hG
      have hS := hE.size
      change OpGoal _ _ _ f w2 Ext _
      exact og_load (P := Try.prog) _ _ w.heap.size _ _ _ rfl rfl rfl (b1.ext hE) Try.underlying28 rfl (by kernel_rfl) rfl
    case o1 =>
      intro f w2 hG hp hl
      have hE : Ext w1 w2 := hG
      have hS := hE.size
      change OpGoal _ _ _ f w2 Ext _
      exact og_load (P := Try.prog) _ _ (w.heap.size + 1) _ _ _ rfl rfl rfl (b2.ext hE) Try.underlying28 rfl (by kernel_rfl) rfl
    case o2 =>
      intro f w2 hG hp hl
      have hE : Ext w1 w2 := hG
      have hS := hE.size
      have q6 : f 1 = .agg #[.bool by_, sy, ty] := tellV hp 0 1 rfl rfl (fun h => by cases h)
      change OpGoal _ _ _ f w2 Ext _
      refine og_call (P := Try.prog) _ _ _ #[f 1] Try.func67 (by kernel_rfl) (by kernel_rfl) rfl rfl (by kernel_rfl) ?_
      rw [q6]
      refine (under_calls _ ny dy _ (Qy.out.ext (e1.trans hE))).mono ?_
      rintro e w' ⟨v', rfl, h1, h2⟩
      exact ⟨v', rfl, h2, h1⟩
    case o3 =>
      intro f w2 hG hp hl
      have hE : Ext w1 w2 := hG
      have hS := hE.size
      have q5 : f 0 = .agg #[.bool bx, sx, tx] := tellV hp 0 0 rfl rfl (fun h => by cases h)
      have q7 := tellV hp 1 2 rfl rfl (fun _ => hE)
      change OpGoal _ _ _ f w2 Ext _
      refine og_call (P := Try.prog) _ _ _ #[f 0, f 2] Try.func72 (by kernel_rfl) (by kernel_rfl) rfl rfl (by kernel_rfl) ?_
      rw [q5]
      refine (over_calls _ _ nx dx dy _ (Qx.out.ext (e1.trans hE)) q7 (by omega)).mono ?_
      rintro e w' ⟨v', rfl, h1, h2⟩
      exact ⟨v', rfl, h2, h1.mono hS⟩
    case o4 =>
      intro f w2 hG hp hl
      have hE : Ext w1 w2 := hG
      have hS := hE.size
      change OpGoal _ _ _ f w2 Ext _
      exact og_load (P := Try.prog) _ _ (w.heap.size + 1) _ _ _ rfl rfl rfl (b2.ext hE) Try.underlying28 rfl (by kernel_rfl) rfl
    case o5 =>
      intro f w2 hG hp hl
      have hE : Ext w1 w2 := hG
      have hS := hE.size
      change OpGoal _ _ _ f w2 Ext _
      exact og_load (P := Try.prog) _ _ w.heap.size _ _ _ rfl rfl rfl (b1.ext hE) Try.underlying28 rfl (by kernel_rfl) rfl
    case o6 =>
      intro f w2 hG hp hl
      have hE : Ext w1 w2 := hG
      have hS := hE.size
      have q10 : f 5 = .agg #[.bool bx, sx, tx] := tellV hp 0 5 rfl rfl (fun h => by cases h)
      change OpGoal _ _ _ f w2 Ext _
      refine og_call (P := Try.prog) _ _ _ #[f 5] Try.func67 (by kernel_rfl) (by kernel_rfl) rfl rfl (by kernel_rfl) ?_
      rw [q10]
      refine (under_calls _ nx dx _ (Qx.out.ext (e1.trans hE))).mono ?_
      rintro e w' ⟨v', rfl, h1, h2⟩
      exact ⟨v', rfl, h2, h1⟩
    case o7 =>
      intro f w2 hG hp hl
      have hE : Ext w1 w2 := hG
      have hS := hE.size
      have q9 : f 4 = .agg #[.bool by_, sy, ty] := tellV hp 0 4 rfl rfl (fun h => by cases h)
      have q11 := tellV hp 1 6 rfl rfl (fun _ => hE)
      change OpGoal _ _ _ f w2 Ext _
      refine og_call (P := Try.prog) _ _ _ #[f 4, f 6] Try.func72 (by kernel_rfl) (by kernel_rfl) rfl rfl (by kernel_rfl) ?_
      rw [q9]
      refine (over_calls _ _ ny dy dx _ (Qy.out.ext (e1.trans hE)) q11 (by omega)).mono ?_
      rintro e w' ⟨v', rfl, h1, h2⟩
      exact ⟨v', rfl, h2, h1.mono hS⟩
    case o8 =>
      intro f w2 hG hp hl
      have hE : Ext w1 w2 := hG
      have hS := hE.size
      have q8 := tellV hp 0 3 rfl rfl (fun _ => hE)
      have q12 := tellV hp 1 7 rfl rfl (fun _ => hE)
      change OpGoal _ _ _ f w2 Ext _
      refine og_call (P := Try.prog) _ _ _ #[f 3, f 7] Try.func77 (by kernel_rfl) (by kernel_rfl) rfl rfl (by kernel_rfl) ?_
      refine (zadd_calls _ _ (nx * dy) (ny * dx) _ (q8.isZ (by rw [LIM_eq]; omega)) (q12.isZ (by rw [LIM_eq]; omega)) (by omega) (by omega)).mono ?_
      rintro e w' ⟨v', rfl, h1, h2⟩
      exact ⟨v', rfl, h2, h1.mono hS⟩
    case o9 =>
      intro f w2 hG hp hl
      have hE : Ext w1 w2 := hG
      have hS := hE.size
      change OpGoal _ _ _ f w2 Ext _
      exact og_load (P := Try.prog) _ _ w.heap.size _ _ _ rfl rfl rfl (b1.ext hE) Try.underlying28 rfl (by kernel_rfl) rfl
    case o10 =>
      intro f w2 hG hp hl
      have hE : Ext w1 w2 := hG
      have hS := hE.size
      have q14 : f 9 = .agg #[.bool bx, sx, tx] := tellV hp 0 9 rfl rfl (fun h => by cases h)
      change OpGoal _ _ _ f w2 Ext _
      refine og_call (P := Try.prog) _ _ _ #[f 9] Try.func67 (by kernel_rfl) (by kernel_rfl) rfl rfl (by kernel_rfl) ?_
      rw [q14]
      refine (under_calls _ nx dx _ (Qx.out.ext (e1.trans hE))).mono ?_
      rintro e w' ⟨v', rfl, h1, h2⟩
      exact ⟨v', rfl, h2, h1⟩
    case o11 =>
      intro f w2 hG hp hl
      have hE : Ext w1 w2 := hG
      have hS := hE.size
      change OpGoal _ _ _ f w2 Ext _
      exact og_load (P := Try.prog) _ _ (w.heap.size + 1) _ _ _ rfl rfl rfl (b2.ext hE) Try.underlying28 rfl (by kernel_rfl) rfl
    case o12 =>
      intro f w2 hG hp hl
      have hE : Ext w1 w2 := hG
      have hS := hE.size
      have q16 : f 11 = .agg #[.bool by_, sy, ty] := tellV hp 0 11 rfl rfl (fun h => by cases h)
      change OpGoal _ _ _ f w2 Ext _
      refine og_call (P := Try.prog) _ _ _ #[f 11] Try.func67 (by kernel_rfl) (by kernel_rfl) rfl rfl (by kernel_rfl) ?_
      rw [q16]
      refine (under_calls _ ny dy _ (Qy.out.ext (e1.trans hE))).mono ?_
      rintro e w' ⟨v', rfl, h1, h2⟩
      exact ⟨v', rfl, h2, h1⟩
    case o13 =>
      intro f w2 hG hp hl
      have hE : Ext w1 w2 := hG
      have hS := hE.size
      have q15 := tellV hp 0 10 rfl rfl (fun _ => hE)
      have q17 := tellV hp 1 12 rfl rfl (fun _ => hE)
      change OpGoal _ _ _ f w2 Ext _
      refine og_call (P := Try.prog) _ _ _ #[f 10, f 12] Try.func76 (by kernel_rfl) (by kernel_rfl) rfl rfl (by kernel_rfl) ?_
      refine (mul_calls dx dy _ _ _ (by omega) q15 q17).mono ?_
      rintro e w' ⟨v', rfl, h1, h2⟩
      exact ⟨v', rfl, h2, h1.mono hS⟩
    case o14 =>
      intro f w2 hG hp hl
      have hE : Ext w1 w2 := hG
      have hS := hE.size
      have q13 := tellV hp 0 8 rfl rfl (fun _ => hE)
      have q18 := tellV hp 1 13 rfl rfl (fun _ => hE)
      change OpGoal _ _ _ f w2 Ext _
      refine og_call (P := Try.prog) _ _ _ #[f 8, f 13] Try.func56 (by kernel_rfl) (by kernel_rfl) rfl rfl (by kernel_rfl) ?_
      refine (lowest_calls _ _ (nx * dy + ny * dx) (dx * dy) _ (q13.isZ (by rw [LIM_eq]; omega)) (q18.isC.isN W_gt (by rw [LIM_eq]; omega)) hpd (by omega) (by omega)).mono ?_
      rintro e w' ⟨v', rfl, h1, h2⟩
      exact ⟨v', rfl, h2, h1.mono hS⟩
    case o15 =>
      intro f w2 hG hp hl
      have hE : Ext w1 w2 := hG
      have hS := hE.size
      have q19 := tellV hp 0 14 rfl rfl (fun _ => hE)
      intro hg0
      change OpGoal _ _ _ f w2 (Chg _) _
      obtain ⟨s', t', hv, hn, hm⟩ := q19
      exact og_store (P := Try.prog) _ _ _ (w.heap.size + 2) _ _ _ (PP.frQ _ : PP _).p rfl rfl rfl hv (show Bx 28 w2 _ _ from hg0.trans b3) (by kernel_rfl) rfl (all3 rfl hn.oneCell hm.oneCell) (fun w' h => ⟨s', t', rfl, hn.chg h (by omega), hm.chg h (by omega)⟩)
  · intro f w2 hG hp
    obtain ⟨cs0, hbx0, hz0⟩ : ∃ cs, Bx 28 w2 (w.heap.size + 2) cs ∧ (PP.frQ (mkRat (nx * dy + ny * dx) (dx * dy)) : PP w1.heap.size).p (.agg cs) w2 := endS hp 15 (by decide)
    clear hp
    have hz1 := hz0.mono (show w.heap.size ≤ _ by omega)
    obtain ⟨s', t', hvv, hnn, hmm⟩ := hz0
    cases hvv
    go_wp2
    refine ret_box 4 28 (w.heap.size + 2) 28 _ _ (by kernel_rfl) rfl hbx0 Try.underlying28 rfl (by kernel_rfl) rfl ?_
    rw [Hsum.out]
    exact ⟨_, rfl, hz1, Hsz.out, e1.stepS hG (by simp)⟩
theorem radd_calls (v u : Value) (x y : Rat) (k l : Nat) (w : World) (hv : IsR w v x k) (hu : IsR w u y l) (hkl : k + l ≤ 17592186044090) :
    Calls Try.prog 43 #[v, u] w fun e w' => ∃ v', e = .returned v' ∧ FrQ w.heap.size w' v' (x + y) ∧ szQ (x + y) ≤ k + l + 1 ∧ Ext w w' :=
  radd2_calls v u x y k k l l (k + l + 1) w hv.isS hu.isS (by omega) (by omega) (by omega) (by omega)

set_option maxRecDepth 100000 in
theorem rsub2_calls (v u : Value) (x y : Rat) (ka kb kc kd K : Nat) (w : World) (hv : IsS w v x ka kb) (hu : IsS w u y kc kd) (hk1 : ka + kd + 1 ≤ K) (hk2 : kc + kb + 1 ≤ K) (hk3 : kb + kd ≤ K) (hK : K ≤ 17592186044091) (hkc : kc ≤ 17592186044090) (hkd : kd ≤ 17592186044090) :
    Calls Try.prog 46 #[v, u] w fun e w' => ∃ v', e = .returned v' ∧ FrQ w.heap.size w' v' (x - y) ∧ szQ (x - y) ≤ K ∧ Ext w w' := by
  have Hx := Lib.hid hv
  have Hy := Lib.hid hu
  have hsy : szZ (-y).num ≤ kc ∧ sz W (-y).den ≤ kd := by
    have := hu.szs
    rw [Rat.neg_num, Rat.neg_den, szZ_neg]
    exact this
  obtain ⟨nx, dx, ⟨bx, sx, tx, mx, d0x, rfl, _⟩, _⟩ := hv
  obtain ⟨ny, dy, ⟨by_, sy, ty, my, d0y, rfl, _⟩, _⟩ := hu
  go_enter Try.func46, Try.ntmps46
  go_wp2_with fail
  obtain ⟨w1, hw1, e1, b1, b2, b3, s1⟩ := alloc3 w #[.bool bx, sx, tx] #[.bool by_, sy, ty] #[.bool false, .slice none 0 0, .slice none 0 0] 28 28 28
  rw [← hw1]
  clear hw1
  refine wp_region_puts [⟨4, (w.heap.size + 2), 28, PP.frQS (x + -y) (K)⟩] [PP.val (.agg #[.bool bx, sx, tx]), PP.val (.agg #[.bool by_, sy, ty]), PP.frQ (-y), PP.frQS (x + -y) (K), PP.any] [] [4, 3, 2, 1, 0]
    (by kernel_rfl) (by kernel_rfl) (fun f => (by simp only [fillR, fillL, List.setIfInBounds_toArray, List.set_cons_succ, List.set_cons_zero, Nat.reduceAdd]; rfl)) ?_ ?_ ?_ ?_ ?_
  · intro x hx; simp only [List.mem_singleton] at hx; subst hx; exact ⟨by show (w.heap.size + 2) < w1.heap.size; omega, rfl⟩
  · intro x hx; simp only [List.mem_singleton] at hx; subst hx; rfl
  · intro x hx y hy h; simp only [List.mem_singleton] at hx hy; subst hx hy; exact absurd rfl h
  · refine ⟨?o0, ?o1, ?o2, ?o3, ?o4, trivial⟩
    case o0 =>
      intro f w2 hG hp hl
      have hE : Ext w1 w2 := hG
      have hS := hE.size
      change OpGoal _ _ _ f w2 Ext _
      exact og_load (P := Try.prog) _ _ w.heap.size _ _ _ rfl rfl rfl (b1.ext hE) Try.underlying28 rfl (by kernel_rfl) rfl
    case o1 =>
      intro f w2 hG hp hl
      have hE : Ext w1 w2 := hG
      have hS := hE.size
      change OpGoal _ _ _ f w2 Ext _
      exact og_load (P := Try.prog) _ _ (w.heap.size + 1) _ _ _ rfl rfl rfl (b2.ext hE) Try.underlying28 rfl (by kernel_rfl) rfl
    case o2 =>
      intro f w2 hG hp hl
      have hE : Ext w1 w2 := hG
      have hS := hE.size
      have q6 : f 1 = .agg #[.bool by_, sy, ty] := tellV hp 0 1 rfl rfl (fun h => by cases h)
      change OpGoal _ _ _ f w2 Ext _
      refine og_call (P := Try.prog) _ _ _ #[f 1] Try.func47 (by kernel_rfl) (by kernel_rfl) rfl rfl (by kernel_rfl) ?_
      rw [q6]
      refine (rneg_calls _ y (max kc kd) _ ((Hy.out.ext (e1.trans hE)).isR (Nat.le_max_left _ _) (Nat.le_max_right _ _)) (by omega)).mono ?_
      rintro e w' ⟨v', rfl, h1, h2⟩
      exact ⟨v', rfl, h2, h1.mono hS⟩
    case o3 =>
      intro f w2 hG hp hl
      have hE : Ext w1 w2 := hG
      have hS := hE.size
      have q5 : f 0 = .agg #[.bool bx, sx, tx] := tellV hp 0 0 rfl rfl (fun h => by cases h)
      have q7 := tellV hp 1 2 rfl rfl (fun _ => hE)
      change OpGoal _ _ _ f w2 Ext _
      refine og_call (P := Try.prog) _ _ _ #[f 0, f 2] Try.func43 (by kernel_rfl) (by kernel_rfl) rfl rfl (by kernel_rfl) ?_
      rw [q5]
      refine (radd2_calls _ _ x (-y) ka kb kc kd K _ (Hx.out.ext (e1.trans hE)) (q7.isS hsy.1 hsy.2 (by rw [LIM_eq]; omega) (by rw [LIM_eq]; omega)) hk1 hk2 hk3 hK).mono ?_
      rintro e w' ⟨v', rfl, h1, h3, h2⟩
      exact ⟨v', rfl, h2, h1.mono hS, h3⟩
    case o4 =>
      intro f w2 hG hp hl
      have hE : Ext w1 w2 := hG
      have hS := hE.size
      have q8 := tellV hp 0 3 rfl rfl (fun _ => hE)
      intro hg0
      change OpGoal _ _ _ f w2 (Chg _) _
      obtain ⟨⟨s', t', hv, hn, hm⟩, hsz⟩ := q8
      exact og_store (P := Try.prog) _ _ _ (w.heap.size + 2) _ _ _ (PP.frQS _ _ : PP _).p rfl rfl rfl hv (show Bx 28 w2 _ _ from hg0.trans b3) (by kernel_rfl) rfl (all3 rfl hn.oneCell hm.oneCell) (fun w' h => ⟨⟨s', t', rfl, hn.chg h (by omega), hm.chg h (by omega)⟩, hsz⟩)
  · intro f w2 hG hp
    obtain ⟨cs0, hbx0, hz0⟩ : ∃ cs, Bx 28 w2 (w.heap.size + 2) cs ∧ (PP.frQS (x + -y) (K) : PP w1.heap.size).p (.agg cs) w2 := endS hp 4 (by decide)
    clear hp
    have hzs := hz0.2
    replace hz0 := hz0.1
    have hz1 := hz0.mono (show w.heap.size ≤ _ by omega)
    obtain ⟨s', t', hvv, hnn, hmm⟩ := hz0
    cases hvv
    go_wp2
    refine ret_box 4 28 (w.heap.size + 2) 28 _ _ (by kernel_rfl) rfl hbx0 Try.underlying28 rfl (by kernel_rfl) rfl ?_
    rw [Rat.sub_eq_add_neg]
    exact ⟨_, rfl, hz1, hzs, e1.stepS hG (by simp)⟩
theorem rsub_calls (v u : Value) (x y : Rat) (k l : Nat) (w : World) (hv : IsR w v x k) (hu : IsR w u y l) (hkl : k + l ≤ 17592186044090) :
    Calls Try.prog 46 #[v, u] w fun e w' => ∃ v', e = .returned v' ∧ FrQ w.heap.size w' v' (x - y) ∧ szQ (x - y) ≤ k + l + 1 ∧ Ext w w' :=
  rsub2_calls v u x y k k l l (k + l + 1) w hv.isS hu.isS (by omega) (by omega) (by omega) (by omega) (by omega) (by omega)

set_option maxRecDepth 100000 in
theorem rmul_calls (v u : Value) (x y : Rat) (k l : Nat) (w : World) (hv : IsR w v x k) (hu : IsR w u y l) (hkl : k + l ≤ 17592186044090) :
    Calls Try.prog 42 #[v, u] w fun e w' => ∃ v', e = .returned v' ∧ FrQ w.heap.size w' v' (x * y) ∧ szQ (x * y) ≤ k + l ∧ Ext w w' := by
  obtain ⟨nx, dx, hqx, rfl, knx, kdx⟩ := hv
  have hpx := hqx.pos
  have Qx := Lib.hid hqx
  obtain ⟨bx, sx, tx, mx, d0x, rfl, hsx, hnx, htx, hdx⟩ := hqx
  have Zx := Lib.hid (show IsZ w (.agg #[.bool bx, sx]) nx from ⟨_, _, _, rfl, hsx, hnx⟩)
  clear hnx hdx
  obtain ⟨ny, dy, hqy, rfl, kny, kdy⟩ := hu
  have hpy := hqy.pos
  have Qy := Lib.hid hqy
  obtain ⟨by_, sy, ty, my, d0y, rfl, hsy, hny, hty, hdy⟩ := hqy
  have Zy := Lib.hid (show IsZ w (.agg #[.bool by_, sy]) ny from ⟨_, _, _, rfl, hsy, hny⟩)
  clear hny hdy
  have sxy := szZ_mul nx ny
  have sdd := sz_mul dx dy
  have hpd := Nat.mul_pos hpx hpy
  have hsum : mkRat nx dx * mkRat ny dy = mkRat (nx * ny) (dx * dy) := Rat.mkRat_mul_mkRat _ _ _ _
  have hss := szQ_mkRat (nx * ny) (dx * dy) hpd
  have hsz : szQ (mkRat (nx * ny) (dx * dy)) ≤ k + l := by exact Nat.max_le.2 ⟨by omega, by omega⟩
  have Hsum := Lib.hid hsum
  have Hsz := Lib.hid hsz
  clear hsum hsz
  go_enter Try.func42, Try.ntmps42
  go_wp2_with fail
  obtain ⟨w1, hw1, e1, b1, b2, b3, s1⟩ := alloc3 w #[.bool bx, sx, tx] #[.bool by_, sy, ty] #[.bool false, .slice none 0 0, .slice none 0 0] 28 28 28
  rw [← hw1]
  clear hw1
  refine wp_region_puts [⟨11, (w.heap.size + 2), 28, PP.frQ (mkRat (nx * ny) (dx * dy))⟩] [PP.val (.pointer (some ⟨w.heap.size, 0, none⟩)), PP.val (.agg #[.bool bx, sx]), PP.val (.pointer (some ⟨(w.heap.size + 1), 0, none⟩)), PP.val (.agg #[.bool by_, sy]), PP.frZ (nx * ny), PP.val (.agg #[.bool bx, sx, tx]), PP.isN .u64 W dx, PP.val (.agg #[.bool by_, sy, ty]), PP.isN .u64 W dy, PP.frN 79 .u64 W (dx * dy), PP.frQ (mkRat (nx * ny) (dx * dy)), PP.any] [] [11, 10, 9, 8, 7, 6, 5, 4, 3, 2, 1, 0]
    (by kernel_rfl) (by kernel_rfl) (fun f => (by simp only [fillR, fillL, List.setIfInBounds_toArray, List.set_cons_succ, List.set_cons_zero, Nat.reduceAdd]; rfl)) ?_ ?_ ?_ ?_ ?_
  · intro x hx; simp only [List.mem_singleton] at hx; subst hx; exact ⟨by show (w.heap.size + 2) < w1.heap.size; omega, rfl⟩
  · intro x hx; simp only [List.mem_singleton] at hx; subst hx; rfl
  · intro x hx y hy h; simp only [List.mem_singleton] at hx hy; subst hx hy; exact absurd rfl h
  · refine ⟨?o0, ?o1, ?o2, ?o3, ?o4, ?o5, ?o6, ?o7, ?o8, ?o9, ?o10, ?o11, trivial⟩
    case o0 =>
      intro f w2 hG hp hl
      have hE : Ext w1 w2 := hG
      have hS := hE.size
      simp only [OpGoal]
      go_simp
      exact ⟨_, rfl, Ext.refl _, rfl⟩
    case o1 =>
      intro f w2 hG hp hl
      have hE : Ext w1 w2 := hG
      have hS := hE.size
      have q5 : f 0 = .pointer (some ⟨w.heap.size, 0, none⟩) := tellV hp 0 0 rfl rfl (fun h => by cases h)
      have hbx := b1.ext hE
      have hcell0 := hbx.cell 0
      have hcell1 := hbx.cell 1
      have hcell2 := hbx.cell 2
      simp only [OpGoal]
      go_simp
      exact ⟨_, rfl, Ext.refl _, rfl⟩
    case o2 =>
      intro f w2 hG hp hl
      have hE : Ext w1 w2 := hG
      have hS := hE.size
      simp only [OpGoal]
      go_simp
      exact ⟨_, rfl, Ext.refl _, rfl⟩
    case o3 =>
      intro f w2 hG hp hl
      have hE : Ext w1 w2 := hG
      have hS := hE.size
      have q7 : f 2 = .pointer (some ⟨(w.heap.size + 1), 0, none⟩) := tellV hp 0 2 rfl rfl (fun h => by cases h)
      have hbx := b2.ext hE
      have hcell0 := hbx.cell 0
      have hcell1 := hbx.cell 1
      have hcell2 := hbx.cell 2
      simp only [OpGoal]
      go_simp
      exact ⟨_, rfl, Ext.refl _, rfl⟩
    case o4 =>
      intro f w2 hG hp hl
      have hE : Ext w1 w2 := hG
      have hS := hE.size
      have q6 : f 1 = .agg #[.bool bx, sx] := tellV hp 0 1 rfl rfl (fun h => by cases h)
      have q8 : f 3 = .agg #[.bool by_, sy] := tellV hp 1 3 rfl rfl (fun h => by cases h)
      change OpGoal _ _ _ f w2 Ext _
      refine og_call (P := Try.prog) _ _ _ #[f 1, f 3] Try.func75 (by kernel_rfl) (by kernel_rfl) rfl rfl (by kernel_rfl) ?_
      rw [q6, q8]
      refine (zmul_calls _ _ nx ny _ (Zx.out.ext (e1.trans hE)) (Zy.out.ext (e1.trans hE)) (by omega)).mono ?_
      rintro e w' ⟨v', rfl, h1, h2⟩
      exact ⟨v', rfl, h2, h1.mono hS⟩
    case o5 =>
      intro f w2 hG hp hl
      have hE : Ext w1 w2 := hG
      have hS := hE.size
      change OpGoal _ _ _ f w2 Ext _
      exact og_load (P := Try.prog) _ _ w.heap.size _ _ _ rfl rfl rfl (b1.ext hE) Try.underlying28 rfl (by kernel_rfl) rfl
    case o6 =>
      intro f w2 hG hp hl
      have hE : Ext w1 w2 := hG
      have hS := hE.size
      have q10 : f 5 = .agg #[.bool bx, sx, tx] := tellV hp 0 5 rfl rfl (fun h => by cases h)
      change OpGoal _ _ _ f w2 Ext _
      refine og_call (P := Try.prog) _ _ _ #[f 5] Try.func67 (by kernel_rfl) (by kernel_rfl) rfl rfl (by kernel_rfl) ?_
      rw [q10]
      refine (under_calls _ nx dx _ (Qx.out.ext (e1.trans hE))).mono ?_
      rintro e w' ⟨v', rfl, h1, h2⟩
      exact ⟨v', rfl, h2, h1⟩
    case o7 =>
      intro f w2 hG hp hl
      have hE : Ext w1 w2 := hG
      have hS := hE.size
      change OpGoal _ _ _ f w2 Ext _
      exact og_load (P := Try.prog) _ _ (w.heap.size + 1) _ _ _ rfl rfl rfl (b2.ext hE) Try.underlying28 rfl (by kernel_rfl) rfl
    case o8 =>
      intro f w2 hG hp hl
      have hE : Ext w1 w2 := hG
      have hS := hE.size
      have q12 : f 7 = .agg #[.bool by_, sy, ty] := tellV hp 0 7 rfl rfl (fun h => by cases h)
      change OpGoal _ _ _ f w2 Ext _
      refine og_call (P := Try.prog) _ _ _ #[f 7] Try.func67 (by kernel_rfl) (by kernel_rfl) rfl rfl (by kernel_rfl) ?_
      rw [q12]
      refine (under_calls _ ny dy _ (Qy.out.ext (e1.trans hE))).mono ?_
      rintro e w' ⟨v', rfl, h1, h2⟩
      exact ⟨v', rfl, h2, h1⟩
    case o9 =>
      intro f w2 hG hp hl
      have hE : Ext w1 w2 := hG
      have hS := hE.size
      have q11 := tellV hp 0 6 rfl rfl (fun _ => hE)
      have q13 := tellV hp 1 8 rfl rfl (fun _ => hE)
      change OpGoal _ _ _ f w2 Ext _
      refine og_call (P := Try.prog) _ _ _ #[f 6, f 8] Try.func76 (by kernel_rfl) (by kernel_rfl) rfl rfl (by kernel_rfl) ?_
      refine (mul_calls dx dy _ _ _ (by omega) q11 q13).mono ?_
      rintro e w' ⟨v', rfl, h1, h2⟩
      exact ⟨v', rfl, h2, h1.mono hS⟩
    case o10 =>
      intro f w2 hG hp hl
      have hE : Ext w1 w2 := hG
      have hS := hE.size
      have q9 := tellV hp 0 4 rfl rfl (fun _ => hE)
      have q14 := tellV hp 1 9 rfl rfl (fun _ => hE)
      change OpGoal _ _ _ f w2 Ext _
      refine og_call (P := Try.prog) _ _ _ #[f 4, f 9] Try.func56 (by kernel_rfl) (by kernel_rfl) rfl rfl (by kernel_rfl) ?_
      refine (lowest_calls _ _ (nx * ny) (dx * dy) _ (q9.isZ (by rw [LIM_eq]; omega)) (q14.isC.isN W_gt (by rw [LIM_eq]; omega)) hpd (by omega) (by omega)).mono ?_
      rintro e w' ⟨v', rfl, h1, h2⟩
      exact ⟨v', rfl, h2, h1.mono hS⟩
    case o11 =>
      intro f w2 hG hp hl
      have hE : Ext w1 w2 := hG
      have hS := hE.size
      have q15 := tellV hp 0 10 rfl rfl (fun _ => hE)
      intro hg0
      change OpGoal _ _ _ f w2 (Chg _) _
      obtain ⟨s', t', hv, hn, hm⟩ := q15
      exact og_store (P := Try.prog) _ _ _ (w.heap.size + 2) _ _ _ (PP.frQ _ : PP _).p rfl rfl rfl hv (show Bx 28 w2 _ _ from hg0.trans b3) (by kernel_rfl) rfl (all3 rfl hn.oneCell hm.oneCell) (fun w' h => ⟨s', t', rfl, hn.chg h (by omega), hm.chg h (by omega)⟩)
  · intro f w2 hG hp
    obtain ⟨cs0, hbx0, hz0⟩ : ∃ cs, Bx 28 w2 (w.heap.size + 2) cs ∧ (PP.frQ (mkRat (nx * ny) (dx * dy)) : PP w1.heap.size).p (.agg cs) w2 := endS hp 11 (by decide)
    clear hp
    have hz1 := hz0.mono (show w.heap.size ≤ _ by omega)
    obtain ⟨s', t', hvv, hnn, hmm⟩ := hz0
    cases hvv
    go_wp2
    refine ret_box 4 28 (w.heap.size + 2) 28 _ _ (by kernel_rfl) rfl hbx0 Try.underlying28 rfl (by kernel_rfl) rfl ?_
    rw [Hsum.out]
    exact ⟨_, rfl, hz1, Hsz.out, e1.stepS hG (by simp)⟩
end Go.Proofs.Ytnefipinicfegaa
