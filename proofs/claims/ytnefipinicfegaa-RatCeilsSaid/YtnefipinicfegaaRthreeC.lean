/-
  The document's fractions, walked (III): sums, products, quotients, comparison, rounding.
-/
import Derived.Test.YtnefipinicfegaaRthreeB
namespace Go.Proofs.Ytnefipinicfegaa
open Go.RowKit
set_option linter.unusedVariables false
set_option linter.unusedSimpArgs false

set_option maxRecDepth 100000 in
set_option maxHeartbeats 1000000 in
theorem rqadd3_calls (v u : Value) (x y : Rat) (k l : Nat) (w : World) (hv : CQ w v x) (hu : CQ w u y) (hx : szD x ≤ k) (hy : szD y ≤ l) (hkl : k + l ≤ 34359738000) :
    Calls Try.prog 48 #[v, u] w fun e w' => ∃ v', e = .returned v' ∧ FrQd w.heap.size w' v' (x + y) ∧ szD (x + y) ≤ k + l + 1 ∧ Ext w w' := by
  obtain ⟨sx, tx, rfl, sx', tx'⟩ := hv
  obtain ⟨sy, ty, rfl, sy', ty'⟩ := hu
  have hkx := szD_le hx
  have hky := szD_le hy
  have zx : CZ w (.agg #[.bool (decide (x.num < 0)), sx]) x.num := ⟨sx, rfl, sx'⟩
  have zy : CZ w (.agg #[.bool (decide (y.num < 0)), sy]) y.num := ⟨sy, rfl, sy'⟩
  have sxy := szT_mul x.num y.den
  have syx := szT_mul y.num x.den
  have s1' : szT (x.den : Int) = sz TK x.den := rfl
  have s2' : szT (y.den : Int) = sz TK y.den := rfl
  have sad := szT_add (x.num * y.den) (y.num * x.den)
  have sdd := dg_len_mul TK_gt x.den y.den
  have hpd := Nat.mul_pos x.den_pos y.den_pos
  have hsum := Rat.add_def' x y
  have hss := szD_mkRat (x.num * y.den + y.num * x.den) (x.den * y.den) hpd
  have sdd' : sz TK (x.den * y.den) ≤ sz TK x.den + sz TK y.den := sdd
  have Hsz := Lib.hid (show szD (x + y) ≤ k + l + 1 by rw [hsum]; exact Nat.max_le.2 ⟨by omega, by omega⟩)
  have Hsum := Lib.hid hsum
  clear hsum
  go_enter Try.func48, Try.ntmps48
  go_wp2_with fail
  obtain ⟨w1, hw1, e1, b1, b2, b3, s1⟩ := alloc3 w #[.bool (decide (x.num < 0)), sx, tx] #[.bool (decide (y.num < 0)), sy, ty] #[.bool false, .slice none 0 0, .slice none 0 0] 40 40 40
  rw [← hw1]
  clear hw1
  refine wp_region_puts [⟨17, (w.heap.size + 2), 40, PP.frQd (mkRat (x.num * y.den + y.num * x.den) (x.den * y.den))⟩] [PP.val (.pointer (some ⟨w.heap.size, 0, none⟩)), PP.val (.agg #[.bool (decide (x.num < 0)), sx]), PP.val (.pointer (some ⟨(w.heap.size + 1), 2, none⟩)), PP.val (ty), PP.frZd (x.num * y.den), PP.val (.pointer (some ⟨(w.heap.size + 1), 0, none⟩)), PP.val (.agg #[.bool (decide (y.num < 0)), sy]), PP.val (.pointer (some ⟨w.heap.size, 2, none⟩)), PP.val (tx), PP.frZd (y.num * x.den), PP.frZd (x.num * y.den + y.num * x.den), PP.val (.pointer (some ⟨w.heap.size, 2, none⟩)), PP.val (tx), PP.val (.pointer (some ⟨(w.heap.size + 1), 2, none⟩)), PP.val (ty), PP.frN 3 .i64 TK (x.den * y.den), PP.frQd (mkRat (x.num * y.den + y.num * x.den) (x.den * y.den)), PP.any] [] [17, 16, 15, 14, 13, 12, 11, 10, 9, 8, 7, 6, 5, 4, 3, 2, 1, 0]
    (by kernel_rfl) (by kernel_rfl) (fun f => (by simp only [fillR, fillL, List.setIfInBounds_toArray, List.set_cons_succ, List.set_cons_zero, Nat.reduceAdd]; rfl)) ?_ ?_ ?_ ?_ ?_
  · intro x hx; simp only [List.mem_singleton] at hx; subst hx; exact ⟨by show (w.heap.size + 2) < w1.heap.size; omega, rfl⟩
  · intro x hx; simp only [List.mem_singleton] at hx; subst hx; rfl
  · intro x hx y hy h; simp only [List.mem_singleton] at hx hy; subst hx hy; exact absurd rfl h
  · refine ⟨?o0, ?o1, ?o2, ?o3, ?o4, ?o5, ?o6, ?o7, ?o8, ?o9, ?o10, ?o11, ?o12, ?o13, ?o14, ?o15, ?o16, ?o17, trivial⟩
    case o0 =>
      intro f w2 hG hp hl
      have hE : Ext w1 w2 := hG
      have hS := hE.size
      simp only [OpGoal]
      go_simp
      exact ⟨_, rfl, Ext.refl _, rfl⟩
    case o1 =>
      intro f w2 hG hp hl
      have hE : Ext w1 w2 := hG
      have hS := hE.size
      have q5 : f 0 = .pointer (some ⟨w.heap.size, 0, none⟩) := tellV hp 0 0 rfl rfl (fun h => by cases h)
      have hbx := b1.ext hE
      have hcell0 := hbx.cell 0
      have hcell1 := hbx.cell 1
      have hcell2 := hbx.cell 2
      simp only [OpGoal]
      go_simp
      exact ⟨_, rfl, Ext.refl _, rfl⟩
    case o2 =>
      intro f w2 hG hp hl
      have hE : Ext w1 w2 := hG
      have hS := hE.size
      simp only [OpGoal]
      go_simp
      exact ⟨_, rfl, Ext.refl _, rfl⟩
    case o3 =>
      intro f w2 hG hp hl
      have hE : Ext w1 w2 := hG
      have hS := hE.size
      have q7 : f 2 = .pointer (some ⟨(w.heap.size + 1), 2, none⟩) := tellV hp 0 2 rfl rfl (fun h => by cases h)
      have hcell := (b2.ext hE).cell 2
      simp only [OpGoal]
      go_simp
      exact ⟨_, rfl, Ext.refl _, rfl⟩
    case o4 =>
      intro f w2 hG hp hl
      have hE : Ext w1 w2 := hG
      have hS := hE.size
      have q6 : f 1 = .agg #[.bool (decide (x.num < 0)), sx] := tellV hp 0 1 rfl rfl (fun h => by cases h)
      have q8 : f 3 = ty := tellV hp 1 3 rfl rfl (fun h => by cases h)
      change OpGoal _ _ _ f w2 Ext _
      refine og_call (P := Try.prog) _ _ _ #[f 1, f 3] Try.func73 (by kernel_rfl) (by kernel_rfl) rfl rfl (by kernel_rfl) ?_
      rw [q6, q8]
      refine (times3_calls _ _ x.num y.den _ (zx.ext (e1.trans hE)) (ty'.ext (e1.trans hE)) (by omega) (by omega)).mono ?_
      rintro e w' ⟨v', rfl, h1, h2⟩
      exact ⟨v', rfl, h2, h1.mono hS⟩
    case o5 =>
      intro f w2 hG hp hl
      have hE : Ext w1 w2 := hG
      have hS := hE.size
      simp only [OpGoal]
      go_simp
      exact ⟨_, rfl, Ext.refl _, rfl⟩
    case o6 =>
      intro f w2 hG hp hl
      have hE : Ext w1 w2 := hG
      have hS := hE.size
      have q10 : f 5 = .pointer (some ⟨(w.heap.size + 1), 0, none⟩) := tellV hp 0 5 rfl rfl (fun h => by cases h)
      have hbx := b2.ext hE
      have hcell0 := hbx.cell 0
      have hcell1 := hbx.cell 1
      have hcell2 := hbx.cell 2
      simp only [OpGoal]
      go_simp
      exact ⟨_, rfl, Ext.refl _, rfl⟩
    case o7 =>
      intro f w2 hG hp hl
      have hE : Ext w1 w2 := hG
      have hS := hE.size
      simp only [OpGoal]
      go_simp
      exact ⟨_, rfl, Ext.refl _, rfl⟩
    case o8 =>
      intro f w2 hG hp hl
      have hE : Ext w1 w2 := hG
      have hS := hE.size
      have q12 : f 7 = .pointer (some ⟨w.heap.size, 2, none⟩) := tellV hp 0 7 rfl rfl (fun h => by cases h)
      have hcell := (b1.ext hE).cell 2
      simp only [OpGoal]
      go_simp
      exact ⟨_, rfl, Ext.refl _, rfl⟩
    case o9 =>
      intro f w2 hG hp hl
      have hE : Ext w1 w2 := hG
      have hS := hE.size
      have q11 : f 6 = .agg #[.bool (decide (y.num < 0)), sy] := tellV hp 0 6 rfl rfl (fun h => by cases h)
      have q13 : f 8 = tx := tellV hp 1 8 rfl rfl (fun h => by cases h)
      change OpGoal _ _ _ f w2 Ext _
      refine og_call (P := Try.prog) _ _ _ #[f 6, f 8] Try.func73 (by kernel_rfl) (by kernel_rfl) rfl rfl (by kernel_rfl) ?_
      rw [q11, q13]
      refine (times3_calls _ _ y.num x.den _ (zy.ext (e1.trans hE)) (tx'.ext (e1.trans hE)) (by omega) (by omega)).mono ?_
      rintro e w' ⟨v', rfl, h1, h2⟩
      exact ⟨v', rfl, h2, h1.mono hS⟩
    case o10 =>
      intro f w2 hG hp hl
      have hE : Ext w1 w2 := hG
      have hS := hE.size
      have q9 := tellV hp 0 4 rfl rfl (fun _ => hE)
      have q14 := tellV hp 1 9 rfl rfl (fun _ => hE)
      change OpGoal _ _ _ f w2 Ext _
      refine og_call (P := Try.prog) _ _ _ #[f 4, f 9] Try.func78 (by kernel_rfl) (by kernel_rfl) rfl rfl (by kernel_rfl) ?_
      refine (zadd2_calls _ _ (x.num * y.den) (y.num * x.den) _ q9.cz q14.cz (by omega) (by omega)).mono ?_
      rintro e w' ⟨v', rfl, h1, h2⟩
      exact ⟨v', rfl, h2, h1.mono hS⟩
    case o11 =>
      intro f w2 hG hp hl
      have hE : Ext w1 w2 := hG
      have hS := hE.size
      simp only [OpGoal]
      go_simp
      exact ⟨_, rfl, Ext.refl _, rfl⟩
    case o12 =>
      intro f w2 hG hp hl
      have hE : Ext w1 w2 := hG
      have hS := hE.size
      have q16 : f 11 = .pointer (some ⟨w.heap.size, 2, none⟩) := tellV hp 0 11 rfl rfl (fun h => by cases h)
      have hcell := (b1.ext hE).cell 2
      simp only [OpGoal]
      go_simp
      exact ⟨_, rfl, Ext.refl _, rfl⟩
    case o13 =>
      intro f w2 hG hp hl
      have hE : Ext w1 w2 := hG
      have hS := hE.size
      simp only [OpGoal]
      go_simp
      exact ⟨_, rfl, Ext.refl _, rfl⟩
    case o14 =>
      intro f w2 hG hp hl
      have hE : Ext w1 w2 := hG
      have hS := hE.size
      have q18 : f 13 = .pointer (some ⟨(w.heap.size + 1), 2, none⟩) := tellV hp 0 13 rfl rfl (fun h => by cases h)
      have hcell := (b2.ext hE).cell 2
      simp only [OpGoal]
      go_simp
      exact ⟨_, rfl, Ext.refl _, rfl⟩
    case o15 =>
      intro f w2 hG hp hl
      have hE : Ext w1 w2 := hG
      have hS := hE.size
      have q17 : f 12 = tx := tellV hp 0 12 rfl rfl (fun h => by cases h)
      have q19 : f 14 = ty := tellV hp 1 14 rfl rfl (fun h => by cases h)
      change OpGoal _ _ _ f w2 Ext _
      refine og_call (P := Try.prog) _ _ _ #[f 12, f 14] Try.func79 (by kernel_rfl) (by kernel_rfl) rfl rfl (by kernel_rfl) ?_
      rw [q17, q19]
      refine (rmul01_calls _ _ x.den y.den _ ((tx'.isN TK_gt (by (first | rw [LIM_eq] | rw [LIM_eqT]); omega)).ext (e1.trans hE)) ((ty'.isN TK_gt (by (first | rw [LIM_eq] | rw [LIM_eqT]); omega)).ext (e1.trans hE))).mono ?_
      rintro e w' ⟨v', rfl, h1, h2⟩
      exact ⟨v', rfl, h2, h1.mono hS⟩
    case o16 =>
      intro f w2 hG hp hl
      have hE : Ext w1 w2 := hG
      have hS := hE.size
      have q15 := tellV hp 0 10 rfl rfl (fun _ => hE)
      have q20 := tellV hp 1 15 rfl rfl (fun _ => hE)
      change OpGoal _ _ _ f w2 Ext _
      refine og_call (P := Try.prog) _ _ _ #[f 10, f 15] Try.func63 (by kernel_rfl) (by kernel_rfl) rfl rfl (by kernel_rfl) ?_
      refine (lowest3z_calls _ _ _ _ _ q15.cz (q20.isC.isN TK_gt (by (first | rw [LIM_eq] | rw [LIM_eqT]); omega)) hpd (by omega) (by omega)).mono ?_
      rintro e w' ⟨v', rfl, h1, h2⟩
      exact ⟨v', rfl, h2, h1.mono hS⟩
    case o17 =>
      intro f w2 hG hp hl
      have hE : Ext w1 w2 := hG
      have hS := hE.size
      have q21 := tellV hp 0 16 rfl rfl (fun _ => hE)
      intro hg0
      change OpGoal _ _ _ f w2 (Chg _) _
      obtain ⟨s', t', hv, hn, hm⟩ := q21
      exact og_store (P := Try.prog) _ _ _ (w.heap.size + 2) _ _ _ (PP.frQd _ : PP _).p rfl rfl rfl hv (show Bx 40 w2 _ _ from hg0.trans b3) (by kernel_rfl) rfl (all3 rfl hn.oneCell hm.oneCell) (fun w' h => ⟨s', t', rfl, hn.chg h (by omega), hm.chg h (by omega)⟩)
  · intro f w2 hG hp
    obtain ⟨cs0, hbx0, hz0⟩ : ∃ cs, Bx 40 w2 (w.heap.size + 2) cs ∧ (PP.frQd (mkRat (x.num * y.den + y.num * x.den) (x.den * y.den)) : PP w1.heap.size).p (.agg cs) w2 := endS hp 17 (by decide)
    clear hp
    have hz1 := hz0.mono (show w.heap.size ≤ _ by omega)
    obtain ⟨s', t', hvv, hnn, hmm⟩ := hz0
    cases hvv
    go_wp2
    refine ret_box 4 40 (w.heap.size + 2) 40 _ _ (by kernel_rfl) rfl hbx0 Try.underlying40 rfl (by kernel_rfl) rfl ?_
    refine ⟨_, rfl, ?_, Hsz.out, e1.stepS hG (by simp)⟩
    rw [Hsum.out]; exact hz1

set_option maxRecDepth 100000 in
set_option maxHeartbeats 1000000 in
theorem rqsub3_calls (v u : Value) (x y : Rat) (k l : Nat) (w : World) (hv : CQ w v x) (hu : CQ w u y) (hx : szD x ≤ k) (hy : szD y ≤ l) (hkl : k + l ≤ 34359738000) :
    Calls Try.prog 35 #[v, u] w fun e w' => ∃ v', e = .returned v' ∧ FrQd w.heap.size w' v' (x - y) ∧ szD (x - y) ≤ k + l + 1 ∧ Ext w w' := by
  have Hv := Lib.hid hv
  have Hu := Lib.hid hu
  obtain ⟨sx, tx, rfl, -, -⟩ := hv
  obtain ⟨sy, ty, rfl, -, -⟩ := hu
  go_enter Try.func35, Try.ntmps35
  go_wp2_with fail
  obtain ⟨w1, hw1, e1, b1, b2, b3, s1⟩ := alloc3 w #[.bool (decide (x.num < 0)), sx, tx] #[.bool (decide (y.num < 0)), sy, ty] #[.bool false, .slice none 0 0, .slice none 0 0] 40 40 40
  rw [← hw1]
  clear hw1
  refine wp_region_puts [⟨4, (w.heap.size + 2), 40, PP.frQdS (x + -y) (k + l + 1)⟩] [PP.val (.agg #[.bool (decide (x.num < 0)), sx, tx]), PP.val (.agg #[.bool (decide (y.num < 0)), sy, ty]), PP.cq (-y), PP.frQdS (x + -y) (k + l + 1), PP.any] [] [4, 3, 2, 1, 0]
    (by kernel_rfl) (by kernel_rfl) (fun f => (by simp only [fillR, fillL, List.setIfInBounds_toArray, List.set_cons_succ, List.set_cons_zero, Nat.reduceAdd]; rfl)) ?_ ?_ ?_ ?_ ?_
  · intro x hx; simp only [List.mem_singleton] at hx; subst hx; exact ⟨by show (w.heap.size + 2) < w1.heap.size; omega, rfl⟩
  · intro x hx; simp only [List.mem_singleton] at hx; subst hx; rfl
  · intro x hx y hy h; simp only [List.mem_singleton] at hx hy; subst hx hy; exact absurd rfl h
  · refine ⟨?o0, ?o1, ?o2, ?o3, ?o4, trivial⟩
    case o0 =>
      intro f w2 hG hp hl
      have hE : Ext w1 w2 := hG
      have hS := hE.size
      change OpGoal _ _ _ f w2 Ext _
      exact og_load (P := Try.prog) _ _ w.heap.size _ _ _ rfl rfl rfl (b1.ext hE) Try.underlying40 rfl (by kernel_rfl) rfl
    case o1 =>
      intro f w2 hG hp hl
      have hE : Ext w1 w2 := hG
      have hS := hE.size
      change OpGoal _ _ _ f w2 Ext _
      exact og_load (P := Try.prog) _ _ (w.heap.size + 1) _ _ _ rfl rfl rfl (b2.ext hE) Try.underlying40 rfl (by kernel_rfl) rfl
    case o2 =>
      intro f w2 hG hp hl
      have hE : Ext w1 w2 := hG
      have hS := hE.size
      have q6 : f 1 = .agg #[.bool (decide (y.num < 0)), sy, ty] := tellV hp 0 1 rfl rfl (fun h => by cases h)
      change OpGoal _ _ _ f w2 Ext _
      refine og_call (P := Try.prog) _ _ _ #[f 1] Try.func50 (by kernel_rfl) (by kernel_rfl) rfl rfl (by kernel_rfl) ?_
      rw [q6]
      refine (rqneg3_calls _ y _ (Hu.out.ext (e1.trans hE)) (by omega)).mono ?_
      rintro e w' ⟨v', rfl, h1, h2⟩
      exact ⟨v', rfl, h2, h1⟩
    case o3 =>
      intro f w2 hG hp hl
      have hE : Ext w1 w2 := hG
      have hS := hE.size
      have q5 : f 0 = .agg #[.bool (decide (x.num < 0)), sx, tx] := tellV hp 0 0 rfl rfl (fun h => by cases h)
      have q7 := tellV hp 1 2 rfl rfl (fun _ => hE)
      change OpGoal _ _ _ f w2 Ext _
      refine og_call (P := Try.prog) _ _ _ #[f 0, f 2] Try.func48 (by kernel_rfl) (by kernel_rfl) rfl rfl (by kernel_rfl) ?_
      rw [q5]
      refine (rqadd3_calls _ _ x (-y) k l _ (Hv.out.ext (e1.trans hE)) q7 hx (by rw [szD_neg]; exact hy) hkl).mono ?_
      rintro e w' ⟨v', rfl, h1, h3, h2⟩
      exact ⟨v', rfl, h2, h1.mono hS, h3⟩
    case o4 =>
      intro f w2 hG hp hl
      have hE : Ext w1 w2 := hG
      have hS := hE.size
      have q8 := tellV hp 0 3 rfl rfl (fun _ => hE)
      intro hg0
      change OpGoal _ _ _ f w2 (Chg _) _
      obtain ⟨⟨s', t', hv, hn, hm⟩, hsz⟩ := q8
      exact og_store (P := Try.prog) _ _ _ (w.heap.size + 2) _ _ _ (PP.frQdS _ _ : PP _).p rfl rfl rfl hv (show Bx 40 w2 _ _ from hg0.trans b3) (by kernel_rfl) rfl (all3 rfl hn.oneCell hm.oneCell) (fun w' h => ⟨⟨s', t', rfl, hn.chg h (by omega), hm.chg h (by omega)⟩, hsz⟩)
  · intro f w2 hG hp
    obtain ⟨cs0, hbx0, hz0⟩ : ∃ cs, Bx 40 w2 (w.heap.size + 2) cs ∧ (PP.frQdS (x + -y) (k + l + 1) : PP w1.heap.size).p (.agg cs) w2 := endS hp 4 (by decide)
    clear hp
    have hzs := hz0.2
    replace hz0 := hz0.1
    have hz1 := hz0.mono (show w.heap.size ≤ _ by omega)
    obtain ⟨s', t', hvv, hnn, hmm⟩ := hz0
    cases hvv
    go_wp2
    refine ret_box 4 40 (w.heap.size + 2) 40 _ _ (by kernel_rfl) rfl hbx0 Try.underlying40 rfl (by kernel_rfl) rfl ?_
    rw [Rat.sub_eq_add_neg]
    exact ⟨_, rfl, hz1, hzs, e1.stepS hG (by simp)⟩

set_option maxRecDepth 100000 in
set_option maxHeartbeats 1000000 in
theorem rqmul3_calls (v u : Value) (x y : Rat) (k l : Nat) (w : World) (hv : CQ w v x) (hu : CQ w u y) (hx : szD x ≤ k) (hy : szD y ≤ l) (hkl : k + l ≤ 34359738000) :
    Calls Try.prog 49 #[v, u] w fun e w' => ∃ v', e = .returned v' ∧ FrQd w.heap.size w' v' (x * y) ∧ szD (x * y) ≤ k + l ∧ Ext w w' := by
  obtain ⟨sx, tx, rfl, sx', tx'⟩ := hv
  obtain ⟨sy, ty, rfl, sy', ty'⟩ := hu
  have hkx := szD_le hx
  have hky := szD_le hy
  have zx : CZ w (.agg #[.bool (decide (x.num < 0)), sx]) x.num := ⟨sx, rfl, sx'⟩
  have zy : CZ w (.agg #[.bool (decide (y.num < 0)), sy]) y.num := ⟨sy, rfl, sy'⟩
  have sxy := szT_mul x.num y.num
  have sdd := dg_len_mul TK_gt x.den y.den
  have hpd := Nat.mul_pos x.den_pos y.den_pos
  have hsum := Rat.mul_def' x y
  have hss := szD_mkRat (x.num * y.num) (x.den * y.den) hpd
  have sdd' : sz TK (x.den * y.den) ≤ sz TK x.den + sz TK y.den := sdd
  have Hsz := Lib.hid (show szD (x * y) ≤ k + l by rw [hsum]; exact Nat.max_le.2 ⟨by omega, by omega⟩)
  have Hsum := Lib.hid hsum
  clear hsum
  go_enter Try.func49, Try.ntmps49
  go_wp2_with fail
  obtain ⟨w1, hw1, e1, b1, b2, b3, s1⟩ := alloc3 w #[.bool (decide (x.num < 0)), sx, tx] #[.bool (decide (y.num < 0)), sy, ty] #[.bool false, .slice none 0 0, .slice none 0 0] 40 40 40
  rw [← hw1]
  clear hw1
  refine wp_region_puts [⟨11, (w.heap.size + 2), 40, PP.frQd (mkRat (x.num * y.num) (x.den * y.den))⟩] [PP.val (.pointer (some ⟨w.heap.size, 0, none⟩)), PP.val (.agg #[.bool (decide (x.num < 0)), sx]), PP.val (.pointer (some ⟨(w.heap.size + 1), 0, none⟩)), PP.val (.agg #[.bool (decide (y.num < 0)), sy]), PP.frZd (x.num * y.num), PP.val (.pointer (some ⟨w.heap.size, 2, none⟩)), PP.val (tx), PP.val (.pointer (some ⟨(w.heap.size + 1), 2, none⟩)), PP.val (ty), PP.frN 3 .i64 TK (x.den * y.den), PP.frQd (mkRat (x.num * y.num) (x.den * y.den)), PP.any] [] [11, 10, 9, 8, 7, 6, 5, 4, 3, 2, 1, 0]
    (by kernel_rfl) (by kernel_rfl) (fun f => (by simp only [fillR, fillL, List.setIfInBounds_toArray, List.set_cons_succ, List.set_cons_zero, Nat.reduceAdd]; rfl)) ?_ ?_ ?_ ?_ ?_
  · intro x hx; simp only [List.mem_singleton] at hx; subst hx; exact ⟨by show (w.heap.size + 2) < w1.heap.size; omega, rfl⟩
  · intro x hx; simp only [List.mem_singleton] at hx; subst hx; rfl
  · intro x hx y hy h; simp only [List.mem_singleton] at hx hy; subst hx hy; exact absurd rfl h
  · refine ⟨?o0, ?o1, ?o2, ?o3, ?o4, ?o5, ?o6, ?o7, ?o8, ?o9, ?o10, ?o11, trivial⟩
    case o0 =>
      intro f w2 hG hp hl
      have hE : Ext w1 w2 := hG
      have hS := hE.size
      simp only [OpGoal]
      go_simp
      exact ⟨_, rfl, Ext.refl _, rfl⟩
    case o1 =>
      intro f w2 hG hp hl
      have hE : Ext w1 w2 := hG
      have hS := hE.size
      have q5 : f 0 = .pointer (some ⟨w.heap.size, 0, none⟩) := tellV hp 0 0 rfl rfl (fun h => by cases h)
      have hbx := b1.ext hE
      have hcell0 := hbx.cell 0
      have hcell1 := hbx.cell 1
      have hcell2 := hbx.cell 2
      simp only [OpGoal]
      go_simp
      exact ⟨_, rfl, Ext.refl _, rfl⟩
    case o2 =>
      intro f w2 hG hp hl
      have hE : Ext w1 w2 := hG
      have hS := hE.size
      simp only [OpGoal]
      go_simp
      exact ⟨_, rfl, Ext.refl _, rfl⟩
    case o3 =>
      intro f w2 hG hp hl
      have hE : Ext w1 w2 := hG
      have hS := hE.size
      have q7 : f 2 = .pointer (some ⟨(w.heap.size + 1), 0, none⟩) := tellV hp 0 2 rfl rfl (fun h => by cases h)
      have hbx := b2.ext hE
      have hcell0 := hbx.cell 0
      have hcell1 := hbx.cell 1
      have hcell2 := hbx.cell 2
      simp only [OpGoal]
      go_simp
      exact ⟨_, rfl, Ext.refl _, rfl⟩
    case o4 =>
      intro f w2 hG hp hl
      have hE : Ext w1 w2 := hG
      have hS := hE.size
      have q6 : f 1 = .agg #[.bool (decide (x.num < 0)), sx] := tellV hp 0 1 rfl rfl (fun h => by cases h)
      have q8 : f 3 = .agg #[.bool (decide (y.num < 0)), sy] := tellV hp 1 3 rfl rfl (fun h => by cases h)
      change OpGoal _ _ _ f w2 Ext _
      refine og_call (P := Try.prog) _ _ _ #[f 1, f 3] Try.func80 (by kernel_rfl) (by kernel_rfl) rfl rfl (by kernel_rfl) ?_
      rw [q6, q8]
      refine (zmul2_calls _ _ x.num y.num _ (zx.ext (e1.trans hE)) (zy.ext (e1.trans hE)) (by omega) (by omega)).mono ?_
      rintro e w' ⟨v', rfl, h1, h2⟩
      exact ⟨v', rfl, h2, h1.mono hS⟩
    case o5 =>
      intro f w2 hG hp hl
      have hE : Ext w1 w2 := hG
      have hS := hE.size
      simp only [OpGoal]
      go_simp
      exact ⟨_, rfl, Ext.refl _, rfl⟩
    case o6 =>
      intro f w2 hG hp hl
      have hE : Ext w1 w2 := hG
      have hS := hE.size
      have q10 : f 5 = .pointer (some ⟨w.heap.size, 2, none⟩) := tellV hp 0 5 rfl rfl (fun h => by cases h)
      have hcell := (b1.ext hE).cell 2
      simp only [OpGoal]
      go_simp
      exact ⟨_, rfl, Ext.refl _, rfl⟩
    case o7 =>
      intro f w2 hG hp hl
      have hE : Ext w1 w2 := hG
      have hS := hE.size
      simp only [OpGoal]
      go_simp
      exact ⟨_, rfl, Ext.refl _, rfl⟩
    case o8 =>
      intro f w2 hG hp hl
      have hE : Ext w1 w2 := hG
      have hS := hE.size
      have q12 : f 7 = .pointer (some ⟨(w.heap.size + 1), 2, none⟩) := tellV hp 0 7 rfl rfl (fun h => by cases h)
      have hcell := (b2.ext hE).cell 2
      simp only [OpGoal]
      go_simp
      exact ⟨_, rfl, Ext.refl _, rfl⟩
    case o9 =>
      intro f w2 hG hp hl
      have hE : Ext w1 w2 := hG
      have hS := hE.size
      have q11 : f 6 = tx := tellV hp 0 6 rfl rfl (fun h => by cases h)
      have q13 : f 8 = ty := tellV hp 1 8 rfl rfl (fun h => by cases h)
      change OpGoal _ _ _ f w2 Ext _
      refine og_call (P := Try.prog) _ _ _ #[f 6, f 8] Try.func79 (by kernel_rfl) (by kernel_rfl) rfl rfl (by kernel_rfl) ?_
      rw [q11, q13]
      refine (rmul01_calls _ _ x.den y.den _ ((tx'.isN TK_gt (by (first | rw [LIM_eq] | rw [LIM_eqT]); omega)).ext (e1.trans hE)) ((ty'.isN TK_gt (by (first | rw [LIM_eq] | rw [LIM_eqT]); omega)).ext (e1.trans hE))).mono ?_
      rintro e w' ⟨v', rfl, h1, h2⟩
      exact ⟨v', rfl, h2, h1.mono hS⟩
    case o10 =>
      intro f w2 hG hp hl
      have hE : Ext w1 w2 := hG
      have hS := hE.size
      have q9 := tellV hp 0 4 rfl rfl (fun _ => hE)
      have q14 := tellV hp 1 9 rfl rfl (fun _ => hE)
      change OpGoal _ _ _ f w2 Ext _
      refine og_call (P := Try.prog) _ _ _ #[f 4, f 9] Try.func63 (by kernel_rfl) (by kernel_rfl) rfl rfl (by kernel_rfl) ?_
      refine (lowest3z_calls _ _ _ _ _ q9.cz (q14.isC.isN TK_gt (by (first | rw [LIM_eq] | rw [LIM_eqT]); omega)) hpd (by omega) (by omega)).mono ?_
      rintro e w' ⟨v', rfl, h1, h2⟩
      exact ⟨v', rfl, h2, h1.mono hS⟩
    case o11 =>
      intro f w2 hG hp hl
      have hE : Ext w1 w2 := hG
      have hS := hE.size
      have q15 := tellV hp 0 10 rfl rfl (fun _ => hE)
      intro hg0
      change OpGoal _ _ _ f w2 (Chg _) _
      obtain ⟨s', t', hv, hn, hm⟩ := q15
      exact og_store (P := Try.prog) _ _ _ (w.heap.size + 2) _ _ _ (PP.frQd _ : PP _).p rfl rfl rfl hv (show Bx 40 w2 _ _ from hg0.trans b3) (by kernel_rfl) rfl (all3 rfl hn.oneCell hm.oneCell) (fun w' h => ⟨s', t', rfl, hn.chg h (by omega), hm.chg h (by omega)⟩)
  · intro f w2 hG hp
    obtain ⟨cs0, hbx0, hz0⟩ : ∃ cs, Bx 40 w2 (w.heap.size + 2) cs ∧ (PP.frQd (mkRat (x.num * y.num) (x.den * y.den)) : PP w1.heap.size).p (.agg cs) w2 := endS hp 11 (by decide)
    clear hp
    have hz1 := hz0.mono (show w.heap.size ≤ _ by omega)
    obtain ⟨s', t', hvv, hnn, hmm⟩ := hz0
    cases hvv
    go_wp2
    refine ret_box 4 40 (w.heap.size + 2) 40 _ _ (by kernel_rfl) rfl hbx0 Try.underlying40 rfl (by kernel_rfl) rfl ?_
    refine ⟨_, rfl, ?_, Hsz.out, e1.stepS hG (by simp)⟩
    rw [Hsum.out]; exact hz1

set_option maxRecDepth 100000 in
set_option maxHeartbeats 1000000 in
theorem rqdiv3_calls (v u : Value) (x y : Rat) (k l : Nat) (w : World) (hv : CQ w v x) (hu : CQ w u y) (hy0 : y ≠ 0) (hx : szD x ≤ k) (hy : szD y ≤ l) (hkl : k + l ≤ 34359738000) :
    Calls Try.prog 40 #[v, u] w fun e w' => ∃ v', e = .returned v' ∧ FrQd w.heap.size w' v' (x / y) ∧ Ext w w' := by
  obtain ⟨sx, tx, rfl, sx', tx'⟩ := hv
  obtain ⟨sy, ty, rfl, sy', ty'⟩ := hu
  have hkx := szD_le hx
  have hky := szD_le hy
  have zx : CZ w (.agg #[.bool (decide (x.num < 0)), sx]) x.num := ⟨sx, rfl, sx'⟩
  have zy : CZ w (.agg #[.bool (decide (y.num < 0)), sy]) y.num := ⟨sy, rfl, sy'⟩
  have sxy := szT_mul x.num y.den
  have syx := szT_mul y.num x.den
  have s1' : szT (x.den : Int) = sz TK x.den := rfl
  have s2' : szT (y.den : Int) = sz TK y.den := rfl
  have hny : y.num ≠ 0 := fun h => hy0 (Rat.num_eq_zero.1 h)
  have hxd := x.den_pos
  have hnz : y.num * (x.den : Int) ≠ 0 := Int.mul_ne_zero hny (by omega)
  have hq := div_mkRat x.num y.num x.den y.den
  rw [Rat.mkRat_self, Rat.mkRat_self] at hq
  have Hq := Lib.hid hq
  clear hq
  go_enter Try.func40, Try.ntmps40
  go_wp2_with fail
  obtain ⟨w1, hw1, e1, b1, b2, b3, s1⟩ := alloc3 w #[.bool (decide (x.num < 0)), sx, tx] #[.bool (decide (y.num < 0)), sy, ty] #[.bool false, .slice none 0 0, .slice none 0 0] 40 40 40
  rw [← hw1]
  clear hw1
  refine wp_region_puts [⟨11, (w.heap.size + 2), 40, PP.frQd (Rat.divInt (x.num * y.den) (y.num * x.den))⟩] [PP.val (.pointer (some ⟨w.heap.size, 0, none⟩)), PP.val (.agg #[.bool (decide (x.num < 0)), sx]), PP.val (.pointer (some ⟨(w.heap.size + 1), 2, none⟩)), PP.val (ty), PP.frZd (x.num * y.den), PP.val (.pointer (some ⟨(w.heap.size + 1), 0, none⟩)), PP.val (.agg #[.bool (decide (y.num < 0)), sy]), PP.val (.pointer (some ⟨w.heap.size, 2, none⟩)), PP.val (tx), PP.frZd (y.num * x.den), PP.frQd (Rat.divInt (x.num * y.den) (y.num * x.den)), PP.any] [] [11, 10, 9, 8, 7, 6, 5, 4, 3, 2, 1, 0]
    (by kernel_rfl) (by kernel_rfl) (fun f => (by simp only [fillR, fillL, List.setIfInBounds_toArray, List.set_cons_succ, List.set_cons_zero, Nat.reduceAdd]; rfl)) ?_ ?_ ?_ ?_ ?_
  · intro x hx; simp only [List.mem_singleton] at hx; subst hx; exact ⟨by show (w.heap.size + 2) < w1.heap.size; omega, rfl⟩
  · intro x hx; simp only [List.mem_singleton] at hx; subst hx; rfl
  · intro x hx y hy h; simp only [List.mem_singleton] at hx hy; subst hx hy; exact absurd rfl h
  · refine ⟨?o0, ?o1, ?o2, ?o3, ?o4, ?o5, ?o6, ?o7, ?o8, ?o9, ?o10, ?o11, trivial⟩
    case o0 =>
      intro f w2 hG hp hl
      have hE : Ext w1 w2 := hG
      have hS := hE.size
      simp only [OpGoal]
      go_simp
      exact ⟨_, rfl, Ext.refl _, rfl⟩
    case o1 =>
      intro f w2 hG hp hl
      have hE : Ext w1 w2 := hG
      have hS := hE.size
      have q5 : f 0 = .pointer (some ⟨w.heap.size, 0, none⟩) := tellV hp 0 0 rfl rfl (fun h => by cases h)
      have hbx := b1.ext hE
      have hcell0 := hbx.cell 0
      have hcell1 := hbx.cell 1
      have hcell2 := hbx.cell 2
      simp only [OpGoal]
      go_simp
      exact ⟨_, rfl, Ext.refl _, rfl⟩
    case o2 =>
      intro f w2 hG hp hl
      have hE : Ext w1 w2 := hG
      have hS := hE.size
      simp only [OpGoal]
      go_simp
      exact ⟨_, rfl, Ext.refl _, rfl⟩
    case o3 =>
      intro f w2 hG hp hl
      have hE : Ext w1 w2 := hG
      have hS := hE.size
      have q7 : f 2 = .pointer (some ⟨(w.heap.size + 1), 2, none⟩) := tellV hp 0 2 rfl rfl (fun h => by cases h)
      have hcell := (b2.ext hE).cell 2
      simp only [OpGoal]
      go_simp
      exact ⟨_, rfl, Ext.refl _, rfl⟩
    case o4 =>
      intro f w2 hG hp hl
      have hE : Ext w1 w2 := hG
      have hS := hE.size
      have q6 : f 1 = .agg #[.bool (decide (x.num < 0)), sx] := tellV hp 0 1 rfl rfl (fun h => by cases h)
      have q8 : f 3 = ty := tellV hp 1 3 rfl rfl (fun h => by cases h)
      change OpGoal _ _ _ f w2 Ext _
      refine og_call (P := Try.prog) _ _ _ #[f 1, f 3] Try.func73 (by kernel_rfl) (by kernel_rfl) rfl rfl (by kernel_rfl) ?_
      rw [q6, q8]
      refine (times3_calls _ _ x.num y.den _ (zx.ext (e1.trans hE)) (ty'.ext (e1.trans hE)) (by omega) (by omega)).mono ?_
      rintro e w' ⟨v', rfl, h1, h2⟩
      exact ⟨v', rfl, h2, h1.mono hS⟩
    case o5 =>
      intro f w2 hG hp hl
      have hE : Ext w1 w2 := hG
      have hS := hE.size
      simp only [OpGoal]
      go_simp
      exact ⟨_, rfl, Ext.refl _, rfl⟩
    case o6 =>
      intro f w2 hG hp hl
      have hE : Ext w1 w2 := hG
      have hS := hE.size
      have q10 : f 5 = .pointer (some ⟨(w.heap.size + 1), 0, none⟩) := tellV hp 0 5 rfl rfl (fun h => by cases h)
      have hbx := b2.ext hE
      have hcell0 := hbx.cell 0
      have hcell1 := hbx.cell 1
      have hcell2 := hbx.cell 2
      simp only [OpGoal]
      go_simp
      exact ⟨_, rfl, Ext.refl _, rfl⟩
    case o7 =>
      intro f w2 hG hp hl
      have hE : Ext w1 w2 := hG
      have hS := hE.size
      simp only [OpGoal]
      go_simp
      exact ⟨_, rfl, Ext.refl _, rfl⟩
    case o8 =>
      intro f w2 hG hp hl
      have hE : Ext w1 w2 := hG
      have hS := hE.size
      have q12 : f 7 = .pointer (some ⟨w.heap.size, 2, none⟩) := tellV hp 0 7 rfl rfl (fun h => by cases h)
      have hcell := (b1.ext hE).cell 2
      simp only [OpGoal]
      go_simp
      exact ⟨_, rfl, Ext.refl _, rfl⟩
    case o9 =>
      intro f w2 hG hp hl
      have hE : Ext w1 w2 := hG
      have hS := hE.size
      have q11 : f 6 = .agg #[.bool (decide (y.num < 0)), sy] := tellV hp 0 6 rfl rfl (fun h => by cases h)
      have q13 : f 8 = tx := tellV hp 1 8 rfl rfl (fun h => by cases h)
      change OpGoal _ _ _ f w2 Ext _
      refine og_call (P := Try.prog) _ _ _ #[f 6, f 8] Try.func73 (by kernel_rfl) (by kernel_rfl) rfl rfl (by kernel_rfl) ?_
      rw [q11, q13]
      refine (times3_calls _ _ y.num x.den _ (zy.ext (e1.trans hE)) (tx'.ext (e1.trans hE)) (by omega) (by omega)).mono ?_
      rintro e w' ⟨v', rfl, h1, h2⟩
      exact ⟨v', rfl, h2, h1.mono hS⟩
    case o10 =>
      intro f w2 hG hp hl
      have hE : Ext w1 w2 := hG
      have hS := hE.size
      have q9 := tellV hp 0 4 rfl rfl (fun _ => hE)
      have q14 := tellV hp 1 9 rfl rfl (fun _ => hE)
      change OpGoal _ _ _ f w2 Ext _
      refine og_call (P := Try.prog) _ _ _ #[f 4, f 9] Try.func21 (by kernel_rfl) (by kernel_rfl) rfl rfl (by kernel_rfl) ?_
      refine (rqmake3_calls _ _ _ _ _ q9.cz q14.cz hnz (by omega) (by omega)).mono ?_
      rintro e w' ⟨v', rfl, h1, h2⟩
      exact ⟨v', rfl, h2, h1.mono hS⟩
    case o11 =>
      intro f w2 hG hp hl
      have hE : Ext w1 w2 := hG
      have hS := hE.size
      have q15 := tellV hp 0 10 rfl rfl (fun _ => hE)
      intro hg0
      change OpGoal _ _ _ f w2 (Chg _) _
      obtain ⟨s', t', hv, hn, hm⟩ := q15
      exact og_store (P := Try.prog) _ _ _ (w.heap.size + 2) _ _ _ (PP.frQd _ : PP _).p rfl rfl rfl hv (show Bx 40 w2 _ _ from hg0.trans b3) (by kernel_rfl) rfl (all3 rfl hn.oneCell hm.oneCell) (fun w' h => ⟨s', t', rfl, hn.chg h (by omega), hm.chg h (by omega)⟩)
  · intro f w2 hG hp
    obtain ⟨cs0, hbx0, hz0⟩ : ∃ cs, Bx 40 w2 (w.heap.size + 2) cs ∧ (PP.frQd (Rat.divInt (x.num * y.den) (y.num * x.den)) : PP w1.heap.size).p (.agg cs) w2 := endS hp 11 (by decide)
    clear hp
    have hz1 := hz0.mono (show w.heap.size ≤ _ by omega)
    obtain ⟨s', t', hvv, hnn, hmm⟩ := hz0
    cases hvv
    go_wp2
    refine ret_box 4 40 (w.heap.size + 2) 40 _ _ (by kernel_rfl) rfl hbx0 Try.underlying40 rfl (by kernel_rfl) rfl ?_
    rw [Hq.out]
    exact ⟨_, rfl, hz1, e1.stepS hG (by simp)⟩

set_option maxRecDepth 100000 in
set_option maxHeartbeats 1000000 in
theorem rqcmp3_calls (v u : Value) (x y : Rat) (k l : Nat) (w : World) (hv : CQ w v x) (hu : CQ w u y) (hx : szD x ≤ k) (hy : szD y ≤ l) (hkl : k + l ≤ 34359738000) :
    Calls Try.prog 52 #[v, u] w fun e w' => e = .returned (.int .i64 (cmpR x y)) ∧ Ext w w' := by
  obtain ⟨sx, tx, rfl, sx', tx'⟩ := hv
  obtain ⟨sy, ty, rfl, sy', ty'⟩ := hu
  have hkx := szD_le hx
  have hky := szD_le hy
  have zx : CZ w (.agg #[.bool (decide (x.num < 0)), sx]) x.num := ⟨sx, rfl, sx'⟩
  have zy : CZ w (.agg #[.bool (decide (y.num < 0)), sy]) y.num := ⟨sy, rfl, sy'⟩
  have sxy := szT_mul x.num y.den
  have syx := szT_mul y.num x.den
  have s1' : szT (x.den : Int) = sz TK x.den := rfl
  have s2' : szT (y.den : Int) = sz TK y.den := rfl
  have hq := cmp_mkRat x.num y.num x.den y.den x.den_pos y.den_pos
  rw [Rat.mkRat_self, Rat.mkRat_self] at hq
  have Hq := Lib.hid hq
  clear hq
  go_enter Try.func52, Try.ntmps52
  go_wp2_with fail
  obtain ⟨w1, hw1, e1, b1, b2, s1⟩ := alloc2 w #[.bool (decide (x.num < 0)), sx, tx] #[.bool (decide (y.num < 0)), sy, ty] 40 40
  rw [← hw1]
  clear hw1
  refine wp_region_puts [] [PP.val (.pointer (some ⟨w.heap.size, 0, none⟩)), PP.val (.agg #[.bool (decide (x.num < 0)), sx]), PP.val (.pointer (some ⟨(w.heap.size + 1), 2, none⟩)), PP.val (ty), PP.frZd (x.num * y.den), PP.val (.pointer (some ⟨(w.heap.size + 1), 0, none⟩)), PP.val (.agg #[.bool (decide (y.num < 0)), sy]), PP.val (.pointer (some ⟨w.heap.size, 2, none⟩)), PP.val (tx), PP.frZd (y.num * x.den), PP.val (.int .i64 (x.num * y.den - y.num * x.den).sign), PP.val (.int .i64 (x.num * y.den - y.num * x.den).sign)] [] [0, 1, 2, 3, 4, 5, 6, 7, 8, 9, 10, 11]
    (by kernel_rfl) (by kernel_rfl) (fun f => (by simp only [fillR, fillL, List.setIfInBounds_toArray, List.set_cons_succ, List.set_cons_zero, Nat.reduceAdd]; rfl)) ?_ ?_ ?_ ?_ ?_
  · intro x hx; cases hx
  · intro x hx; cases hx
  · intro x hx; cases hx
  · refine ⟨?o0, ?o1, ?o2, ?o3, ?o4, ?o5, ?o6, ?o7, ?o8, ?o9, ?o10, ?o11, trivial⟩
    case o0 =>
      intro f w2 hG hp hl
      have hE : Ext w1 w2 := hG
      have hS := hE.size
      simp only [OpGoal]
      go_simp
      exact ⟨_, rfl, Ext.refl _, rfl⟩
    case o1 =>
      intro f w2 hG hp hl
      have hE : Ext w1 w2 := hG
      have hS := hE.size
      have q5 : f 0 = .pointer (some ⟨w.heap.size, 0, none⟩) := tellV hp 0 0 rfl rfl (fun h => by cases h)
      have hbx := b1.ext hE
      have hcell0 := hbx.cell 0
      have hcell1 := hbx.cell 1
      have hcell2 := hbx.cell 2
      simp only [OpGoal]
      go_simp
      exact ⟨_, rfl, Ext.refl _, rfl⟩
    case o2 =>
      intro f w2 hG hp hl
      have hE : Ext w1 w2 := hG
      have hS := hE.size
      simp only [OpGoal]
      go_simp
      exact ⟨_, rfl, Ext.refl _, rfl⟩
    case o3 =>
      intro f w2 hG hp hl
      have hE : Ext w1 w2 := hG
      have hS := hE.size
      have q7 : f 2 = .pointer (some ⟨(w.heap.size + 1), 2, none⟩) := tellV hp 0 2 rfl rfl (fun h => by cases h)
      have hcell := (b2.ext hE).cell 2
      simp only [OpGoal]
      go_simp
      exact ⟨_, rfl, Ext.refl _, rfl⟩
    case o4 =>
      intro f w2 hG hp hl
      have hE : Ext w1 w2 := hG
      have hS := hE.size
      have q6 : f 1 = .agg #[.bool (decide (x.num < 0)), sx] := tellV hp 0 1 rfl rfl (fun h => by cases h)
      have q8 : f 3 = ty := tellV hp 1 3 rfl rfl (fun h => by cases h)
      change OpGoal _ _ _ f w2 Ext _
      refine og_call (P := Try.prog) _ _ _ #[f 1, f 3] Try.func73 (by kernel_rfl) (by kernel_rfl) rfl rfl (by kernel_rfl) ?_
      rw [q6, q8]
      refine (times3_calls _ _ x.num y.den _ (zx.ext (e1.trans hE)) (ty'.ext (e1.trans hE)) (by omega) (by omega)).mono ?_
      rintro e w' ⟨v', rfl, h1, h2⟩
      exact ⟨v', rfl, h2, h1.mono hS⟩
    case o5 =>
      intro f w2 hG hp hl
      have hE : Ext w1 w2 := hG
      have hS := hE.size
      simp only [OpGoal]
      go_simp
      exact ⟨_, rfl, Ext.refl _, rfl⟩
    case o6 =>
      intro f w2 hG hp hl
      have hE : Ext w1 w2 := hG
      have hS := hE.size
      have q10 : f 5 = .pointer (some ⟨(w.heap.size + 1), 0, none⟩) := tellV hp 0 5 rfl rfl (fun h => by cases h)
      have hbx := b2.ext hE
      have hcell0 := hbx.cell 0
      have hcell1 := hbx.cell 1
      have hcell2 := hbx.cell 2
      simp only [OpGoal]
      go_simp
      exact ⟨_, rfl, Ext.refl _, rfl⟩
    case o7 =>
      intro f w2 hG hp hl
      have hE : Ext w1 w2 := hG
      have hS := hE.size
      simp only [OpGoal]
      go_simp
      exact ⟨_, rfl, Ext.refl _, rfl⟩
    case o8 =>
      intro f w2 hG hp hl
      have hE : Ext w1 w2 := hG
      have hS := hE.size
      have q12 : f 7 = .pointer (some ⟨w.heap.size, 2, none⟩) := tellV hp 0 7 rfl rfl (fun h => by cases h)
      have hcell := (b1.ext hE).cell 2
      simp only [OpGoal]
      go_simp
      exact ⟨_, rfl, Ext.refl _, rfl⟩
    case o9 =>
      intro f w2 hG hp hl
      have hE : Ext w1 w2 := hG
      have hS := hE.size
      have q11 : f 6 = .agg #[.bool (decide (y.num < 0)), sy] := tellV hp 0 6 rfl rfl (fun h => by cases h)
      have q13 : f 8 = tx := tellV hp 1 8 rfl rfl (fun h => by cases h)
      change OpGoal _ _ _ f w2 Ext _
      refine og_call (P := Try.prog) _ _ _ #[f 6, f 8] Try.func73 (by kernel_rfl) (by kernel_rfl) rfl rfl (by kernel_rfl) ?_
      rw [q11, q13]
      refine (times3_calls _ _ y.num x.den _ (zy.ext (e1.trans hE)) (tx'.ext (e1.trans hE)) (by omega) (by omega)).mono ?_
      rintro e w' ⟨v', rfl, h1, h2⟩
      exact ⟨v', rfl, h2, h1.mono hS⟩
    case o10 =>
      intro f w2 hG hp hl
      have hE : Ext w1 w2 := hG
      have hS := hE.size
      have q9 := tellV hp 0 4 rfl rfl (fun _ => hE)
      have q14 := tellV hp 1 9 rfl rfl (fun _ => hE)
      change OpGoal _ _ _ f w2 Ext _
      refine og_call (P := Try.prog) _ _ _ #[f 4, f 9] Try.func81 (by kernel_rfl) (by kernel_rfl) rfl rfl (by kernel_rfl) ?_
      refine (zcmp2_calls _ _ _ _ _ q9.cz q14.cz (by omega) (by omega)).mono ?_
      rintro e w' ⟨rfl, h2⟩
      exact ⟨_, rfl, h2, rfl⟩
    case o11 =>
      intro f w2 hG hp hl
      have hE : Ext w1 w2 := hG
      have hS := hE.size
      have q15 : f 10 = .int .i64 (x.num * y.den - y.num * x.den).sign := tellV hp 0 10 rfl rfl (fun h => by cases h)
      exact ⟨_, rfl, Ext.refl _, q15⟩
  · intro f w2 hG hp
    have hE : Ext w1 w2 := ChgS.nil hG
    have q4 : f 11 = .int .i64 (x.num * y.den - y.num * x.den).sign := endV hp 11 (by decide) rfl (fun h => by cases h)
    try simp only [q4]
    clear hp
    go_wp2
    go_ret
    exact ⟨by rw [Hq.out]; rfl, e1.trans hE⟩
end Go.Proofs.Ytnefipinicfegaa
