/-
  The document's fractions, walked (II).
-/
import Derived.Test.YtnefipinicfegaaRthreeA
namespace Go.Proofs.Ytnefipinicfegaa
open Go.RowKit
set_option linter.unusedVariables false
set_option linter.unusedSimpArgs false

set_option maxRecDepth 100000 in
set_option maxHeartbeats 1000000 in
theorem lowest3z_calls (v u : Value) (z : Int) (d : Nat) (w : World) (hv : CZ w v z) (hu : IsN .i64 TK w u d) (hd : 0 < d) (hsz : szT z ≤ 68719476736) (hsd : sz TK d ≤ 68719476736) :
    Calls Try.prog 63 #[v, u] w fun e w' => ∃ v', e = .returned v' ∧ FrQd w.heap.size w' v' (mkRat z d) ∧ Ext w w' := by
  obtain ⟨b, s, n, rfl, hs, rfl⟩ := hv.parts
  rw [szT_sgn] at hsz
  exact lowest3_calls b s u n d w hs hu hd hsz hsd
def PP.zt {S : Nat} (z : Int) (T : Value) : PP S := ⟨false, fun u w => ∃ s, u = .agg #[.bool (decide (z < 0)), s, T] ∧ FrN 3 .i64 TK S w s z.natAbs, fun _ _ _ h hp => (let ⟨v, h1, h2⟩ := hp; ⟨v, h1, h2.ext h⟩), fun _ _ hg _ _ _ h hp => (let ⟨v, h1, h2⟩ := hp; ⟨v, h1, h2.chg h hg⟩)⟩
set_option maxRecDepth 100000 in
set_option maxHeartbeats 1000000 in
theorem szD_le {q : Rat} {k : Nat} (h : szD q ≤ k) : szT q.num ≤ k ∧ sz TK q.den ≤ k := by unfold szD at h; omega
set_option maxRecDepth 100000 in
set_option maxHeartbeats 1000000 in
theorem szD_neg (q : Rat) : szD (-q) = szD q := by unfold szD; rw [Rat.neg_num, Rat.neg_den, szT_neg]

set_option maxRecDepth 100000 in
set_option maxHeartbeats 1000000 in
theorem rqto3_calls (v : Value) (q : Rat) (w : World) (hv : CQ w v q) (hsz : szD q ≤ 68719476736) :
    Calls Try.prog 17 #[v] w fun e w' => ∃ v', e = .returned v' ∧ FrQ w.heap.size w' v' q ∧ Ext w w' := by
  obtain ⟨s, t, rfl, hs, ht⟩ := hv
  have hk := szD_le hsz
  have hZ : CZ w (.agg #[.bool (decide (q.num < 0)), s]) q.num := ⟨s, rfl, hs⟩
  go_enter Try.func17, Try.ntmps17
  go_wp2_with fail
  obtain ⟨w1, hw1, e1, b1, b2, s1⟩ := alloc2 w #[.bool (decide (q.num < 0)), s, t] #[.bool false, .slice none 0 0, .slice none 0 0] 40 28
  rw [← hw1]
  clear hw1
  refine wp_region_puts [⟨7, (w.heap.size + 1), 28, PP.frQ q⟩] [PP.val (.pointer (some ⟨w.heap.size, 0, none⟩)), PP.val (.agg #[.bool (decide (q.num < 0)), s]), PP.frZ q.num, PP.val (.pointer (some ⟨w.heap.size, 2, none⟩)), PP.val (t), PP.frN 79 .u64 W q.den, PP.frQ q, PP.any] [] [7, 6, 5, 4, 3, 2, 1, 0]
    (by kernel_rfl) (by kernel_rfl) (fun f => (by simp only [fillR, fillL, List.setIfInBounds_toArray, List.set_cons_succ, List.set_cons_zero, Nat.reduceAdd]; rfl)) ?_ ?_ ?_ ?_ ?_
  · intro x hx; simp only [List.mem_singleton] at hx; subst hx; exact ⟨by show (w.heap.size + 1) < w1.heap.size; omega, rfl⟩
  · intro x hx; simp only [List.mem_singleton] at hx; subst hx; rfl
  · intro x hx y hy h; simp only [List.mem_singleton] at hx hy; subst hx hy; exact absurd rfl h
  · refine ⟨?o0, ?o1, ?o2, ?o3, ?o4, ?o5, ?o6, ?o7, trivial⟩
    case o0 =>
      intro f w2 hG hp hl
      have hE : Ext w1 w2 := hG
      have hS := hE.size
      simp only [OpGoal]
      go_simp
      exact ⟨_, rfl, Ext.refl _, rfl⟩
    case o1 =>
      intro f w2 hG hp hl
      have hE : Ext w1 w2 := hG
      have hS := hE.size
      have q3 : f 0 = .pointer (some ⟨w.heap.size, 0, none⟩) := tellV hp 0 0 rfl rfl (fun h => by cases h)
      have hbx := b1.ext hE
      have hcell0 := hbx.cell 0
      have hcell1 := hbx.cell 1
      have hcell2 := hbx.cell 2
      simp only [OpGoal]
      go_simp
      exact ⟨_, rfl, Ext.refl _, rfl⟩
    case o2 =>
      intro f w2 hG hp hl
      have hE : Ext w1 w2 := hG
      have hS := hE.size
      have q4 : f 1 = .agg #[.bool (decide (q.num < 0)), s] := tellV hp 0 1 rfl rfl (fun h => by cases h)
      change OpGoal _ _ _ f w2 Ext _
      refine og_call (P := Try.prog) _ _ _ #[f 1] Try.func32 (by kernel_rfl) (by kernel_rfl) rfl rfl (by kernel_rfl) ?_
      rw [q4]
      refine (zto2_calls _ q.num _ (hZ.ext (e1.trans hE)) hk.1).mono ?_
      rintro e w' ⟨v', rfl, h1, h2⟩
      exact ⟨v', rfl, h2, h1.mono hS⟩
    case o3 =>
      intro f w2 hG hp hl
      have hE : Ext w1 w2 := hG
      have hS := hE.size
      simp only [OpGoal]
      go_simp
      exact ⟨_, rfl, Ext.refl _, rfl⟩
    case o4 =>
      intro f w2 hG hp hl
      have hE : Ext w1 w2 := hG
      have hS := hE.size
      have q6 : f 3 = .pointer (some ⟨w.heap.size, 2, none⟩) := tellV hp 0 3 rfl rfl (fun h => by cases h)
      have hcell := (b1.ext hE).cell 2
      simp only [OpGoal]
      go_simp
      exact ⟨_, rfl, Ext.refl _, rfl⟩
    case o5 =>
      intro f w2 hG hp hl
      have hE : Ext w1 w2 := hG
      have hS := hE.size
      have q7 : f 4 = t := tellV hp 0 4 rfl rfl (fun h => by cases h)
      change OpGoal _ _ _ f w2 Ext _
      refine og_call (P := Try.prog) _ _ _ #[f 4] Try.func62 (by kernel_rfl) (by kernel_rfl) rfl rfl (by kernel_rfl) ?_
      rw [q7]
      refine (rto01_calls _ q.den _ ((ht.isN TK_gt (by (first | rw [LIM_eq] | rw [LIM_eqT]); omega)).ext (e1.trans hE)) hk.2).mono ?_
      rintro e w' ⟨v', rfl, h1, h2⟩
      exact ⟨v', rfl, h2, h1.mono hS⟩
    case o6 =>
      intro f w2 hG hp hl
      have hE : Ext w1 w2 := hG
      have hS := hE.size
      have q5 := tellV hp 0 2 rfl rfl (fun _ => hE)
      have q8 := tellV hp 1 5 rfl rfl (fun _ => hE)
      obtain ⟨s', hv, hn⟩ := q5
      obtain ⟨ad, cap, rfl⟩ := hn.slice
      obtain ⟨ad2, cap2, hv2⟩ := FrN.slice q8
      simp only [OpGoal]
      go_simp
      exact ⟨_, rfl, Ext.refl _, _, _, rfl, hn, hv2 ▸ q8⟩
    case o7 =>
      intro f w2 hG hp hl
      have hE : Ext w1 w2 := hG
      have hS := hE.size
      have q9 := tellV hp 0 6 rfl rfl (fun _ => hE)
      intro hg0
      change OpGoal _ _ _ f w2 (Chg _) _
      obtain ⟨s', t', hv, hn, hm⟩ := q9
      exact og_store (P := Try.prog) _ _ _ (w.heap.size + 1) _ _ _ (PP.frQ _ : PP _).p rfl rfl rfl hv (show Bx 28 w2 _ _ from hg0.trans b2) (by kernel_rfl) rfl (all3 rfl hn.oneCell hm.oneCell) (fun w' h => ⟨s', t', rfl, hn.chg h (by omega), hm.chg h (by omega)⟩)
  · intro f w2 hG hp
    obtain ⟨cs0, hbx0, hz0⟩ : ∃ cs, Bx 28 w2 (w.heap.size + 1) cs ∧ (PP.frQ q : PP w1.heap.size).p (.agg cs) w2 := endS hp 7 (by decide)
    clear hp
    have hz1 := hz0.mono (show w.heap.size ≤ _ by omega)
    obtain ⟨s', t', hvv, hnn, hmm⟩ := hz0
    cases hvv
    go_wp2
    refine ret_box 2 28 (w.heap.size + 1) 28 _ _ (by kernel_rfl) rfl hbx0 Try.underlying28 rfl (by kernel_rfl) rfl ?_
    exact ⟨_, rfl, hz1, e1.stepS hG (by simp)⟩

set_option maxRecDepth 100000 in
set_option maxHeartbeats 1000000 in
theorem rqsign3_calls (v : Value) (q : Rat) (w : World) (hv : CQ w v q) :
    Calls Try.prog 39 #[v] w fun e w' => e = .returned (.int .i64 q.num.sign) ∧ Ext w w' := by
  obtain ⟨s, t, rfl, hs, ht⟩ := hv
  have hZ : CZ w (.agg #[.bool (decide (q.num < 0)), s]) q.num := ⟨s, rfl, hs⟩
  go_enter Try.func39, Try.ntmps39
  obtain ⟨w1, hw1, e1, b1, s1⟩ := alloc1 w #[.bool (decide (q.num < 0)), s, t] 40
  have hc0 := b1.cell 0
  have hc1 := b1.cell 1
  have hc2 := b1.cell 2
  rw [hw1] at hc0 hc1 hc2
  go_wp2_with fail
  rw [← hw1]
  refine (zsign2_calls _ q.num _ (hZ.ext e1)).mono ?_
  rintro e w2 ⟨rfl, e2⟩
  go_wp2
  go_ret
  exact ⟨rfl, e1.trans e2⟩

set_option maxRecDepth 100000 in
set_option maxHeartbeats 1000000 in
theorem rqneg3_calls (v : Value) (q : Rat) (w : World) (hv : CQ w v q) (hsz : szD q ≤ 68719476736) :
    Calls Try.prog 50 #[v] w fun e w' => ∃ v', e = .returned v' ∧ CQ w' v' (-q) ∧ Ext w w' := by
  obtain ⟨s, t, rfl, hs, ht⟩ := hv
  have hk := szD_le hsz
  have hZ : CZ w (.agg #[.bool (decide (q.num < 0)), s]) q.num := ⟨s, rfl, hs⟩
  obtain ⟨adt, capt, rfl⟩ := ht.slice
  go_enter Try.func50, Try.ntmps50
  go_wp2_with fail
  obtain ⟨w1, hw1, e1, b1, b2, s1⟩ := alloc2 w #[.bool (decide (q.num < 0)), s, .slice adt (sz TK q.den) capt] #[.bool false, .slice none 0 0, .slice none 0 0] 40 40
  rw [← hw1]
  clear hw1
  refine wp_region_puts [⟨6, (w.heap.size + 1), 40, PP.zt (-q.num) (.slice adt (sz TK q.den) capt)⟩] [PP.val (.pointer (some ⟨w.heap.size, 0, none⟩)), PP.val (.agg #[.bool (decide (q.num < 0)), s]), PP.frZd (-q.num), PP.val (.pointer (some ⟨w.heap.size, 2, none⟩)), PP.val (.slice adt (sz TK q.den) capt), PP.zt (-q.num) (.slice adt (sz TK q.den) capt), PP.any] [] [6, 5, 4, 3, 2, 1, 0]
    (by kernel_rfl) (by kernel_rfl) (fun f => (by simp only [fillR, fillL, List.setIfInBounds_toArray, List.set_cons_succ, List.set_cons_zero, Nat.reduceAdd]; rfl)) ?_ ?_ ?_ ?_ ?_
  · intro x hx; simp only [List.mem_singleton] at hx; subst hx; exact ⟨by show (w.heap.size + 1) < w1.heap.size; omega, rfl⟩
  · intro x hx; simp only [List.mem_singleton] at hx; subst hx; rfl
  · intro x hx y hy h; simp only [List.mem_singleton] at hx hy; subst hx hy; exact absurd rfl h
  · refine ⟨?o0, ?o1, ?o2, ?o3, ?o4, ?o5, ?o6, trivial⟩
    case o0 =>
      intro f w2 hG hp hl
      have hE : Ext w1 w2 := hG
      have hS := hE.size
      simp only [OpGoal]
      go_simp
      exact ⟨_, rfl, Ext.refl _, rfl⟩
    case o1 =>
      intro f w2 hG hp hl
      have hE : Ext w1 w2 := hG
      have hS := hE.size
      have q3 : f 0 = .pointer (some ⟨w.heap.size, 0, none⟩) := tellV hp 0 0 rfl rfl (fun h => by cases h)
      have hbx := b1.ext hE
      have hcell0 := hbx.cell 0
      have hcell1 := hbx.cell 1
      have hcell2 := hbx.cell 2
      simp only [OpGoal]
      go_simp
      exact ⟨_, rfl, Ext.refl _, rfl⟩
    case o2 =>
      intro f w2 hG hp hl
      have hE : Ext w1 w2 := hG
      have hS := hE.size
      have q4 : f 1 = .agg #[.bool (decide (q.num < 0)), s] := tellV hp 0 1 rfl rfl (fun h => by cases h)
      change OpGoal _ _ _ f w2 Ext _
      refine og_call (P := Try.prog) _ _ _ #[f 1] Try.func70 (by kernel_rfl) (by kernel_rfl) rfl rfl (by kernel_rfl) ?_
      rw [q4]
      refine (zneg2_calls _ q.num _ (hZ.ext (e1.trans hE)) hk.1).mono ?_
      rintro e w' ⟨v', rfl, h1, h2⟩
      exact ⟨v', rfl, h2, h1.mono hS⟩
    case o3 =>
      intro f w2 hG hp hl
      have hE : Ext w1 w2 := hG
      have hS := hE.size
      simp only [OpGoal]
      go_simp
      exact ⟨_, rfl, Ext.refl _, rfl⟩
    case o4 =>
      intro f w2 hG hp hl
      have hE : Ext w1 w2 := hG
      have hS := hE.size
      have q6 : f 3 = .pointer (some ⟨w.heap.size, 2, none⟩) := tellV hp 0 3 rfl rfl (fun h => by cases h)
      have hcell := (b1.ext hE).cell 2
      simp only [OpGoal]
      go_simp
      exact ⟨_, rfl, Ext.refl _, rfl⟩
    case o5 =>
      intro f w2 hG hp hl
      have hE : Ext w1 w2 := hG
      have hS := hE.size
      have q5 := tellV hp 0 2 rfl rfl (fun _ => hE)
      have q7 : f 4 = .slice adt (sz TK q.den) capt := tellV hp 1 4 rfl rfl (fun h => by cases h)
      obtain ⟨s', hv, hn⟩ := q5
      obtain ⟨ad, cap, rfl⟩ := hn.slice
      obtain ⟨bb, hbb⟩ : ∃ bb, bb = decide (-q.num < 0) := ⟨_, rfl⟩
      rw [← hbb] at hv
      have Hbb := Lib.hid hbb
      clear hbb
      generalize sz TK (-q.num).natAbs = ll at *
      simp only [OpGoal]
      go_simp
      exact ⟨_, rfl, Ext.refl _, _, by rw [Hbb.out], hn⟩
    case o6 =>
      intro f w2 hG hp hl
      have hE : Ext w1 w2 := hG
      have hS := hE.size
      have q8 := tellV hp 0 5 rfl rfl (fun _ => hE)
      intro hg0
      change OpGoal _ _ _ f w2 (Chg _) _
      obtain ⟨s', hv, hn⟩ := q8
      exact og_store (P := Try.prog) _ _ _ (w.heap.size + 1) _ _ _ (PP.zt _ _ : PP _).p rfl rfl rfl hv (show Bx 40 w2 _ _ from hg0.trans b2) (by kernel_rfl) rfl (all3 rfl hn.oneCell rfl) (fun w' h => ⟨s', rfl, hn.chg h (by omega)⟩)
  · intro f w2 hG hp
    obtain ⟨cs0, hbx0, hz0⟩ : ∃ cs, Bx 40 w2 (w.heap.size + 1) cs ∧ (PP.zt (-q.num) (.slice adt (sz TK q.den) capt) : PP w1.heap.size).p (.agg cs) w2 := endS hp 6 (by decide)
    clear hp
    obtain ⟨s', hv, hn⟩ := hz0
    cases hv
    go_wp2
    refine ret_box 2 40 (w.heap.size + 1) 40 _ _ (by kernel_rfl) rfl hbx0 Try.underlying40 rfl (by kernel_rfl) rfl ?_
    exact ⟨_, rfl, ⟨_, _, rfl, hn.isC, ht.ext (e1.stepS hG (by simp))⟩, e1.stepS hG (by simp)⟩

set_option maxRecDepth 100000 in
set_option maxHeartbeats 1000000 in
theorem rqof3_calls (v : Value) (n : Int) (d : Nat) (w : World) (hv : IsQ w v n d) (hsn : szT n ≤ 68719476736) (hsd : sz TK d ≤ 68719476736) :
    Calls Try.prog 28 #[v] w fun e w' => ∃ v', e = .returned v' ∧ FrQd w.heap.size w' v' (mkRat n d) ∧ Ext w w' := by
  have hp := hv.pos
  obtain ⟨b, s, t, m, d0, rfl, hs, hn, ht, hd⟩ := hv
  have hZ := Lib.hid (show IsZ w (.agg #[.bool b, s]) n from ⟨_, _, _, rfl, hs, hn⟩)
  have Hn := Lib.hid hn
  clear hn
  have hs0 : sz TK d0 ≤ 68719476736 := by
    rw [hd] at hsd
    split at hsd
    · rename_i h; rw [h]; exact Nat.zero_le _
    · exact hsd
  have hz := @szT_zero d0
  go_enter Try.func28, Try.ntmps28
  obtain ⟨w1, hw1, e1, b1, b2, s1⟩ := alloc2 w #[.bool b, s, t] #[.bool false, .slice none 0 0, .slice none 0 0] 28 40
  have hc2 := b1.cell 2
  rw [hw1] at hc2
  go_wp2_with fail
  rw [← hw1]
  clear hc2
  refine (rof01_calls t d0 _ (ht.ext e1) hs0).mono ?_
  rintro e w2 ⟨vd, rfl, hvd, e2⟩
  obtain ⟨add, capd, rfl⟩ := hvd.slice
  have hk0 := (b1.ext e2).cell 0
  have hk1 := (b1.ext e2).cell 1
  rcases Nat.eq_zero_or_pos d0 with h0 | h0
  · subst h0
    have hz0 : sz TK 0 = 0 := rfl
    have hd1 : d = 1 := by rw [hd]; rfl
    subst hd1
    rw [hz0] at hvd ⊢
    clear hd hz hz0 hs0 hk0 hk1
    obtain ⟨w3, hw3, e3, b3, s3⟩ := alloc1 w2 #[.int .i64 1] 3
    have hone := isN_one (k := .i64) (B := TK) w2 1 3 (by rw [TK_eq]; omega)
    rw [show ((1 : Nat) : Int) = 1 from rfl, ← hw3] at hone
    have hk0 := ((b1.ext e2).ext e3).cell 0
    have hk1 := ((b1.ext e2).ext e3).cell 1
    have hk2 := ((b1.ext e2).ext e3).cell 2
    rw [hw3] at hk0 hk1 hk2
    go_wp2_with fail
    rw [← hw3]
    refine (zof2_calls _ n _ (hZ.out.ext ((e1.trans e2).trans e3)) hsn).mono ?_
    rintro e w4 ⟨vn, rfl, hvn, e4⟩
    go_wp2_with fail
    refine (lowest3z_calls _ _ n 1 _ hvn.cz (hone.ext e4) hp hsn hsd).mono ?_
    rintro e w5 ⟨v5, rfl, h5, e5⟩
    have hs2 := e2.size
    have hs4 := e4.size
    have hsE := (((e1.trans e2).trans e3).trans e4).size
    obtain ⟨s', t', rfl, hn, hm⟩ := h5
    obtain ⟨ad5, cap5, rfl⟩ := hn.slice
    obtain ⟨ad6, cap6, rfl⟩ := hm.slice
    have Hn5 := Lib.hid hn
    have Hm5 := Lib.hid hm
    clear hn hm hk0 hk1 hk2
    have hb := (((b2.ext e2).ext e3).ext e4).ext e5
    have hc0 := hb.cell 0
    have hc1 := hb.cell 1
    have hc2 := hb.cell 2
    have hf0 := hb.free 0
    have hf1 := hb.free 1
    have hf2 := hb.free 2
    go_wp2
    refine ret_box 2 40 (w.heap.size + 1) 40 _ _ (by kernel_rfl) rfl (((hb.set 0 _).set 1 _).set 2 _) Try.underlying40 rfl (by kernel_rfl) rfl ?_
    exact ⟨_, rfl, ⟨_, _, rfl, (Hn5.out.chg (Chg.trans (Chg.trans (Chg.setCell _ (w.heap.size + 1) 0 _) (Chg.setCell _ (w.heap.size + 1) 1 _)) (Chg.setCell _ (w.heap.size + 1) 2 _)) (by omega)).mono (by omega), (Hm5.out.chg (Chg.trans (Chg.trans (Chg.setCell _ (w.heap.size + 1) 0 _) (Chg.setCell _ (w.heap.size + 1) 1 _)) (Chg.setCell _ (w.heap.size + 1) 2 _)) (by omega)).mono (by omega)⟩, ((((e1.trans e2).trans e3).trans e4).trans e5).step (Chg.trans (Chg.trans (Chg.setCell _ (w.heap.size + 1) 0 _) (Chg.setCell _ (w.heap.size + 1) 1 _)) (Chg.setCell _ (w.heap.size + 1) 2 _)) (by omega)⟩
  · have hz0 : ¬ sz TK d0 = 0 := fun e => by have := hz.1 e; omega
    have hd1 : d = d0 := by rw [hd, if_neg (by omega)]
    subst hd1
    have hdN := hvd.isC.isN TK_gt (by (first | rw [LIM_eq] | rw [LIM_eqT]); omega)
    clear hz hd
    have hk2 := (b1.ext e2).cell 2
    go_wp2_with fail
    refine (zof2_calls _ n _ (hZ.out.ext (e1.trans e2)) hsn).mono ?_
    rintro e w4 ⟨vn, rfl, hvn, e4⟩
    go_wp2_with fail
    refine (lowest3z_calls _ _ n d _ hvn.cz (hdN.ext e4) hp hsn hsd).mono ?_
    rintro e w5 ⟨v5, rfl, h5, e5⟩
    have hs2 := e2.size
    have hs4 := e4.size
    have hsE := ((e1.trans e2).trans e4).size
    obtain ⟨s', t', rfl, hn, hm⟩ := h5
    obtain ⟨ad5, cap5, rfl⟩ := hn.slice
    obtain ⟨ad6, cap6, rfl⟩ := hm.slice
    have Hn5 := Lib.hid hn
    have Hm5 := Lib.hid hm
    clear hn hm hk0 hk1 hk2
    have hb := ((b2.ext e2).ext e4).ext e5
    have hc0 := hb.cell 0
    have hc1 := hb.cell 1
    have hc2 := hb.cell 2
    have hf0 := hb.free 0
    have hf1 := hb.free 1
    have hf2 := hb.free 2
    go_wp2
    refine ret_box 2 40 (w.heap.size + 1) 40 _ _ (by kernel_rfl) rfl (((hb.set 0 _).set 1 _).set 2 _) Try.underlying40 rfl (by kernel_rfl) rfl ?_
    exact ⟨_, rfl, ⟨_, _, rfl, (Hn5.out.chg (Chg.trans (Chg.trans (Chg.setCell _ (w.heap.size + 1) 0 _) (Chg.setCell _ (w.heap.size + 1) 1 _)) (Chg.setCell _ (w.heap.size + 1) 2 _)) (by omega)).mono (by omega), (Hm5.out.chg (Chg.trans (Chg.trans (Chg.setCell _ (w.heap.size + 1) 0 _) (Chg.setCell _ (w.heap.size + 1) 1 _)) (Chg.setCell _ (w.heap.size + 1) 2 _)) (by omega)).mono (by omega)⟩, (((e1.trans e2).trans e4).trans e5).step (Chg.trans (Chg.trans (Chg.setCell _ (w.heap.size + 1) 0 _) (Chg.setCell _ (w.heap.size + 1) 1 _)) (Chg.setCell _ (w.heap.size + 1) 2 _)) (by omega)⟩

set_option maxRecDepth 100000 in
set_option maxHeartbeats 1000000 in
theorem rqwhole3_calls (v : Value) (z : Int) (w : World) (hv : CZ w v z) (hsz : szT z ≤ 68719476736) :
    Calls Try.prog 18 #[v] w fun e w' => ∃ v', e = .returned v' ∧ FrQd w.heap.size w' v' (z : Rat) ∧ Ext w w' := by
  have hV := Lib.hid hv
  have hq1 : mkRat z 1 = (z : Rat) := by
    have := Rat.mkRat_self (z : Rat)
    rwa [Rat.num_intCast, Rat.den_intCast] at this
  obtain ⟨b, s, n, rfl, -, -⟩ := hv.parts
  clear hv
  go_enter Try.func18, Try.ntmps18
  obtain ⟨w1, hw1, e1, b1, b2, b3, s1⟩ := alloc3 w #[.bool b, s] #[.bool false, .slice none 0 0, .slice none 0 0] #[.int .i64 1] 34 40 3
  have hc0 := b1.cell 0
  have hc1 := b1.cell 1
  rw [hw1] at hc0 hc1
  have hone : IsN .i64 TK w1 (.slice (some ⟨w.heap.size + 1 + 1, 0, none⟩) 1 1) 1 :=
    ⟨[1], ⟨_, 1, rfl, Nat.le_refl _, by omega, .inr ⟨_, 0, rfl, fun i v hi => by rw [Nat.zero_add]; exact (b3.cell i).trans (by simpa [vals] using hi)⟩⟩, by (first | rw [LIM_eq] | rw [LIM_eqT]); simp, fun y hy => (by simpa using hy : y = 1) ▸ (by rw [TK_eq]; omega), by simp [val]⟩
  go_wp2_with fail
  rw [← hw1]
  clear hc0 hc1
  refine (lowest3z_calls _ _ z 1 _ (hV.out.ext e1) hone (by omega) hsz (by rw [show sz TK 1 = 1 from rfl]; omega)).mono ?_
  rw [hq1]
  rintro e w5 ⟨v5, rfl, h5, e5⟩
  obtain ⟨s', t', rfl, hn, hm⟩ := h5
  obtain ⟨ad5, cap5, rfl⟩ := hn.slice
  obtain ⟨ad6, cap6, rfl⟩ := hm.slice
  have Hn5 := Lib.hid hn
  have Hm5 := Lib.hid hm
  clear hn hm
  have hb := b2.ext e5
  have hc0 := hb.cell 0
  have hc1 := hb.cell 1
  have hc2 := hb.cell 2
  have hf0 := hb.free 0
  have hf1 := hb.free 1
  have hf2 := hb.free 2
  go_wp2
  refine ret_box 2 40 (w.heap.size + 1) 40 _ _ (by kernel_rfl) rfl (((hb.set 0 _).set 1 _).set 2 _) Try.underlying40 rfl (by kernel_rfl) rfl ?_
  exact ⟨_, rfl, ⟨_, _, rfl, (Hn5.out.chg (Chg.trans (Chg.trans (Chg.setCell _ (w.heap.size + 1) 0 _) (Chg.setCell _ (w.heap.size + 1) 1 _)) (Chg.setCell _ (w.heap.size + 1) 2 _)) (by omega)).mono (by omega), (Hm5.out.chg (Chg.trans (Chg.trans (Chg.setCell _ (w.heap.size + 1) 0 _) (Chg.setCell _ (w.heap.size + 1) 1 _)) (Chg.setCell _ (w.heap.size + 1) 2 _)) (by omega)).mono (by omega)⟩, (e1.trans e5).step (Chg.trans (Chg.trans (Chg.setCell _ (w.heap.size + 1) 0 _) (Chg.setCell _ (w.heap.size + 1) 1 _)) (Chg.setCell _ (w.heap.size + 1) 2 _)) (by omega)⟩

set_option maxRecDepth 100000 in
set_option maxHeartbeats 1000000 in
theorem rqmake3_calls (v u : Value) (x y : Int) (w : World) (hv : CZ w v x) (hu : CZ w u y) (hy : y ≠ 0) (hsx : szT x ≤ 68719476736) (hsy : szT y ≤ 68719476736) :
    Calls Try.prog 21 #[v, u] w fun e w' => ∃ v', e = .returned v' ∧ FrQd w.heap.size w' v' (Rat.divInt x y) ∧ Ext w w' := by
  obtain ⟨b, s, n, rfl, hs, rfl⟩ := hv.parts
  obtain ⟨c, t, m, rfl, ht, rfl⟩ := hu.parts
  rw [szT_sgn] at hsx hsy
  clear hv hu
  have hm : 0 < m := by
    rcases Nat.eq_zero_or_pos m with h | h
    · subst h; exact absurd (by cases c <;> rfl) hy
    · exact h
  have Hq := Lib.hid (mkRat_divInt b c n m hm)
  have htN := ht.isN TK_gt (by (first | rw [LIM_eq] | rw [LIM_eqT]); omega)
  obtain ⟨ads, caps, rfl⟩ := hs.slice
  have Hs := Lib.hid hs
  clear hs hy
  go_enter Try.func21, Try.ntmps21
  obtain ⟨w1, hw1, e1, b1, b2, b3, s1⟩ := alloc3 w #[.bool b, .slice ads (sz TK n) caps] #[.bool c, t] #[.bool false, .slice none 0 0, .slice none 0 0] 34 34 40
  have hc0 := b1.cell 0
  have hc1 := b1.cell 1
  have hd0 := b2.cell 0
  have hd1 := b2.cell 1
  rw [hw1] at hc0 hc1 hd0 hd1
  go_wp2_with fail
  rw [← hw1]
  clear hc0 hc1 hd0 hd1
  refine (lowest3_calls (b != c) _ _ n m _ (Hs.out.ext e1) (htN.ext e1) hm hsx hsy).mono ?_
  rw [Hq.out]
  rintro e w5 ⟨v5, rfl, h5, e5⟩
  obtain ⟨s', t', rfl, hn, hm⟩ := h5
  obtain ⟨ad5, cap5, rfl⟩ := hn.slice
  obtain ⟨ad6, cap6, rfl⟩ := hm.slice
  have Hn5 := Lib.hid hn
  have Hm5 := Lib.hid hm
  clear hn hm
  have hb := b3.ext e5
  have hc0 := hb.cell 0
  have hc1 := hb.cell 1
  have hc2 := hb.cell 2
  have hf0 := hb.free 0
  have hf1 := hb.free 1
  have hf2 := hb.free 2
  go_wp2
  refine ret_box 4 40 (w.heap.size + 2) 40 _ _ (by kernel_rfl) rfl (((hb.set 0 _).set 1 _).set 2 _) Try.underlying40 rfl (by kernel_rfl) rfl ?_
  exact ⟨_, rfl, ⟨_, _, rfl, (Hn5.out.chg (Chg.trans (Chg.trans (Chg.setCell _ (w.heap.size + 2) 0 _) (Chg.setCell _ (w.heap.size + 2) 1 _)) (Chg.setCell _ (w.heap.size + 2) 2 _)) (by omega)).mono (by omega), (Hm5.out.chg (Chg.trans (Chg.trans (Chg.setCell _ (w.heap.size + 2) 0 _) (Chg.setCell _ (w.heap.size + 2) 1 _)) (Chg.setCell _ (w.heap.size + 2) 2 _)) (by omega)).mono (by omega)⟩, (e1.trans e5).step (Chg.trans (Chg.trans (Chg.setCell _ (w.heap.size + 2) 0 _) (Chg.setCell _ (w.heap.size + 2) 1 _)) (Chg.setCell _ (w.heap.size + 2) 2 _)) (by omega)⟩
end Go.Proofs.Ytnefipinicfegaa
