/-
  rat's functions, walked (V): rounding.
-/
import Derived.Test.YtnefipinicfegaaRatD
namespace Go.Proofs.Ytnefipinicfegaa
open Go.RowKit
set_option linter.unusedVariables false
set_option linter.unusedSimpArgs false

set_option maxRecDepth 100000 in
theorem IsN.slice {k : IntKind} {B n : Nat} {w : World} {v : Value} (h : IsN k B w v n) : ∃ ad l cap, v = .slice ad l cap := by
  obtain ⟨xs, ⟨ad, cap, rfl, -⟩, -⟩ := h
  exact ⟨ad, _, cap, rfl⟩
set_option maxRecDepth 100000 in
set_option maxHeartbeats 1000000 in
set_option maxRecDepth 100000 in
theorem rfloor_calls (v : Value) (x : Rat) (k : Nat) (w : World) (hv : IsR w v x k) (hk : k ≤ 17592186044088) :
    Calls Try.prog 29 #[v] w fun e w' => ∃ v', e = .returned v' ∧ FrZ w.heap.size w' v' x.floor ∧ szZ x.floor ≤ k + 1 ∧ Ext w w' := by
  obtain ⟨nx, dx, hqx, rfl, knx, kdx⟩ := hv
  have hpx := hqx.pos
  have Qx := Lib.hid hqx
  obtain ⟨bx, sx, tx, mx, d0x, rfl, hsx, hnx, htx, hdx⟩ := hqx
  have Zx := Lib.hid (show IsZ w (.agg #[.bool bx, sx]) nx from ⟨_, _, _, rfl, hsx, hnx⟩)
  clear hnx hdx
  have Hfl := Lib.hid (mkRat_floor nx dx hpx)
  have Hsz := Lib.hid (show szZ (nx / (dx : Int)) ≤ k + 1 by
    have h : (nx / (dx : Int)).natAbs ≤ nx.natAbs := Int.natAbs_ediv_le_natAbs _ _
    exact Nat.le_trans (sz_mono h) (by unfold szZ at *; omega))
  go_enter Try.func29, Try.ntmps29
  go_wp2_with fail
  obtain ⟨w1, hw1, e1, b1, b2, s1⟩ := alloc2 w #[.bool bx, sx, tx] #[.bool false, .slice none 0 0] 28 24
  rw [← hw1]
  clear hw1
  refine wp_region_als [⟨10, 24, 2, #[.bool false, .slice none 0 0]⟩, ⟨11, 24, 2, #[.bool false, .slice none 0 0]⟩] [⟨12, ⟨10, 24, 2, #[.bool false, .slice none 0 0]⟩, PA.frZ (nx / (dx : Int))⟩, ⟨13, ⟨11, 24, 2, #[.bool false, .slice none 0 0]⟩, PA.frZ (nx % (dx : Int))⟩] [PA.val (.pointer (some ⟨w.heap.size, 0, none⟩)), PA.val (.agg #[.bool bx, sx]), PA.val (.agg #[.bool bx, sx, tx]), PA.isN dx, PA.aggN dx, PA.tupZ (nx / (dx : Int)) (nx % (dx : Int)), PA.tupZ (nx / (dx : Int)) (nx % (dx : Int)), PA.frZ (nx / (dx : Int)), PA.frZ (nx % (dx : Int)), PA.val (.int .i64 0), PA.any, PA.any, PA.any, PA.any, PA.val (.int .i64 0)]
    (by kernel_rfl) (by kernel_rfl) (fun f => (by simp only [fillR, fillL, List.setIfInBounds_toArray, List.set_cons_succ, List.set_cons_zero, Nat.reduceAdd]; rfl)) ?_ ?_ ?_ ?_ ?_
  · intro x hx; simp only [List.mem_cons, List.not_mem_nil, or_false] at hx; rcases hx with rfl | rfl
    · exact ⟨rfl, rfl, by decide, by decide, rfl, noInt2 _ _ _ _⟩
    · exact ⟨rfl, rfl, by decide, by decide, rfl, noInt2 _ _ _ _⟩
  · intro x hx; simp only [List.mem_cons, List.not_mem_nil, or_false] at hx; rcases hx with rfl | rfl <;> exact ⟨rfl, rfl, by simp⟩
  · intro x hx y hy h; simp only [List.mem_cons, List.not_mem_nil, or_false] at hx hy; rcases hx with rfl | rfl <;> rcases hy with rfl | rfl
    · exact absurd rfl h
    · show 10 ≠ 11; decide
    · show 11 ≠ 10; decide
    · exact absurd rfl h
  · refine ⟨?o0, ?o1, ?o2, ?o3, ?o4, ?o5, ?o6, ?o7, ?o8, ?o9, ?o10, ?o11, ?o12, ?o13, ?o14, trivial⟩
    case o0 =>
      intro f w2 hE hp
      have hS := hE.size
      change OpGoal _ _ _ f w2 Ext _
      simp only [OpGoal]
      go_simp
      exact ⟨_, rfl, Ext.refl _, rfl⟩
    case o1 =>
      intro f w2 hE hp
      have hS := hE.size
      have q7 : f 0 = .pointer (some ⟨w.heap.size, 0, none⟩) := tellA hp 0 0 rfl rfl rfl
      have hbx := b1.ext hE
      have hcell0 := hbx.cell 0
      have hcell1 := hbx.cell 1
      have hcell2 := hbx.cell 2
      change OpGoal _ _ _ f w2 Ext _
      simp only [OpGoal]
      go_simp
      exact ⟨_, rfl, Ext.refl _, rfl⟩
    case o2 =>
      intro f w2 hE hp
      have hS := hE.size
      change OpGoal _ _ _ f w2 Ext _
      exact og_load (P := Try.prog) _ _ w.heap.size _ _ _ rfl rfl rfl (b1.ext hE) Try.underlying28 rfl (by kernel_rfl) rfl
    case o3 =>
      intro f w2 hE hp
      have hS := hE.size
      have q9 : f 2 = .agg #[.bool bx, sx, tx] := tellA hp 0 2 rfl rfl rfl
      change OpGoal _ _ _ f w2 Ext _
      refine og_call (P := Try.prog) _ _ _ #[f 2] Try.func67 (by kernel_rfl) (by kernel_rfl) rfl rfl (by kernel_rfl) ?_
      rw [q9]
      refine (under_calls _ nx dx _ (Qx.out.ext (e1.trans hE))).mono ?_
      rintro e w' ⟨v', rfl, h1, h2⟩
      exact ⟨v', rfl, h2, h1⟩
    case o4 =>
      intro f w2 hE hp
      have hS := hE.size
      have q10 := tellA hp 0 3 rfl rfl rfl
      change OpGoal _ _ _ f w2 Ext _
      obtain ⟨ad, n', cap, hv⟩ := IsN.slice q10
      simp only [OpGoal]
      go_simp
      exact ⟨_, rfl, Ext.refl _, _, rfl, hv ▸ q10⟩
    case o5 =>
      intro f w2 hE hp
      have hS := hE.size
      have q8 : f 1 = .agg #[.bool bx, sx] := tellA hp 0 1 rfl rfl rfl
      have q11 := tellA hp 1 4 rfl rfl rfl
      change OpGoal _ _ _ f w2 Ext _
      refine og_call (P := Try.prog) _ _ _ #[f 1, f 4] Try.func66 (by kernel_rfl) (by kernel_rfl) rfl rfl (by kernel_rfl) ?_
      rw [q8]
      obtain ⟨t', hv, ht'⟩ := q11
      rw [hv]
      refine (zdivfloor_calls _ t' nx dx _ (Zx.out.ext (e1.trans hE)) ht' hpx (by omega) (by omega)).mono ?_
      rintro e w' ⟨v1, v2, rfl, h1, h3, h2⟩
      exact ⟨_, rfl, h2, v1, v2, rfl, h1.mono hS, h3.mono hS⟩
    case o6 =>
      intro f w2 hE hp
      have hS := hE.size
      have q12 := tellA hp 0 5 rfl rfl rfl
      change OpGoal _ _ _ f w2 Ext _
      exact ⟨_, rfl, Ext.refl _, q12⟩
    case o7 =>
      intro f w2 hE hp
      have hS := hE.size
      have q6 := tellA hp 0 6 rfl rfl rfl
      change OpGoal _ _ _ f w2 Ext _
      obtain ⟨v1, v2, hv, h1, h3⟩ := q6
      simp only [OpGoal]
      go_simp
      exact ⟨_, rfl, Ext.refl _, h1⟩
    case o8 =>
      intro f w2 hE hp
      have hS := hE.size
      have q6 := tellA hp 0 6 rfl rfl rfl
      change OpGoal _ _ _ f w2 Ext _
      obtain ⟨v1, v2, hv, h1, h3⟩ := q6
      simp only [OpGoal]
      go_simp
      exact ⟨_, rfl, Ext.refl _, h3⟩
    case o9 =>
      intro f w2 hE hp
      have hS := hE.size
      have q6 := tellA hp 0 6 rfl rfl rfl
      obtain ⟨v1, v2, hv, h1, h3⟩ := q6
      simp only [OpGoal]
      go_simp
      exact ⟨_, rfl, Ext.refl _, rfl⟩
    case o10 =>
      intro f w2 hE hp
      have hS := hE.size
      change OpGoal _ _ _ f w2 (fun a b => b = a.alloc _) _
      exact og_alloc (P := Try.prog) _ _ (.agg #[.bool false, .slice none 0 0]) rfl rfl (by kernel_rfl) rfl
    case o11 =>
      intro f w2 hE hp
      have hS := hE.size
      change OpGoal _ _ _ f w2 (fun a b => b = a.alloc _) _
      exact og_alloc (P := Try.prog) _ _ (.agg #[.bool false, .slice none 0 0]) rfl rfl (by kernel_rfl) rfl
    case o12 =>
      intro f w2 hE hp
      have hS := hE.size
      have q13 := tellA hp 1 7 rfl rfl rfl
      intro g old hfa hSg hbx hsz hno
      change OpGoal _ _ _ f w2 (Chg g) _
      obtain ⟨cells, hv, hcs, hc1, hcn⟩ := FrZ.parts q13
      exact og_storeA (P := Try.prog) (PA.frZ (nx / (dx : Int))) 2 _ _ _ g _ old cells rfl rfl hfa hv hbx (by rw [hcs]; kernel_rfl) hsz hcs hc1 hSg (show 24 ≠ 79 by decide) (show 24 ≠ 3 by decide) hno hcn (hv ▸ q13)
    case o13 =>
      intro f w2 hE hp
      have hS := hE.size
      have q14 := tellA hp 1 8 rfl rfl rfl
      intro g old hfa hSg hbx hsz hno
      change OpGoal _ _ _ f w2 (Chg g) _
      obtain ⟨cells, hv, hcs, hc1, hcn⟩ := FrZ.parts q14
      exact og_storeA (P := Try.prog) (PA.frZ (nx % (dx : Int))) 2 _ _ _ g _ old cells rfl rfl hfa hv hbx (by rw [hcs]; kernel_rfl) hsz hcs hc1 hSg (show 24 ≠ 79 by decide) (show 24 ≠ 3 by decide) hno hcn (hv ▸ q14)
    case o14 =>
      intro f w2 hE hp
      have hS := hE.size
      have q15 : f 9 = .int .i64 0 := tellA hp 0 9 rfl rfl rfl
      change OpGoal _ _ _ f w2 Ext _
      simp only [OpGoal]
      go_simp
      exact ⟨_, rfl, Ext.refl _, rfl⟩
  · intro f w2 hE hp hal
    obtain ⟨ga3, ca3, fa3, la3, ba3, na3, pa3⟩ := hal ⟨10, 24, 2, #[.bool false, .slice none 0 0]⟩ (by simp) (by decide)
    dsimp only at fa3 la3 ba3 na3
    have za3 := pa3 ⟨12, ⟨10, 24, 2, #[.bool false, .slice none 0 0]⟩, PA.frZ (nx / (dx : Int))⟩ (by simp) (by show 12 < 15; decide) rfl rfl
    clear pa3
    obtain ⟨ga4, ca4, fa4, la4, ba4, na4, pa4⟩ := hal ⟨11, 24, 2, #[.bool false, .slice none 0 0]⟩ (by simp) (by decide)
    dsimp only at fa4 la4 ba4 na4
    have za4 := pa4 ⟨13, ⟨11, 24, 2, #[.bool false, .slice none 0 0]⟩, PA.frZ (nx % (dx : Int))⟩ (by simp) (by show 13 < 15; decide) rfl rfl
    clear pa4
    clear hp hal
    obtain ⟨s3, hv3, hn3⟩ := za3
    cases hv3
    obtain ⟨ad, cap, rfl⟩ := hn3.slice
    have Hn := Lib.hid hn3
    clear hn3 za4
    have hq0 := ba3.cell 0
    have hq1 := ba3.cell 1
    have hb := b2.ext hE
    have hc0 := hb.cell 0
    have hc1 := hb.cell 1
    have hf0 := hb.free 0
    have hf1 := hb.free 1
    go_wp2
    refine ret_box 2 24 (w.heap.size + 1) 24 _ _ (by kernel_rfl) rfl ((hb.set 0 _).set 1 _) Try.underlying24 rfl (by kernel_rfl) rfl ?_
    rw [Hfl.out]
    exact ⟨_, rfl, ⟨_, rfl, ((Hn.out.chg (Chg.trans (Chg.setCell _ (w.heap.size + 1) 0 _) (Chg.setCell _ (w.heap.size + 1) 1 _))
 (by omega)).mono (by omega))⟩, Hsz.out, (e1.trans hE).step (Chg.trans (Chg.setCell _ (w.heap.size + 1) 0 _) (Chg.setCell _ (w.heap.size + 1) 1 _))
 (by omega)⟩

set_option maxRecDepth 100000 in
theorem szQ_neg (x : Rat) : szQ (-x) = szQ x := by
  unfold szQ
  rw [Rat.neg_num, Rat.neg_den, szZ_neg]
set_option maxRecDepth 100000 in
theorem szQ_int (z : Int) : szQ (z : Rat) ≤ max (szZ z) 1 := by
  unfold szQ
  rw [Rat.num_intCast, Rat.den_intCast]
  exact Nat.le_refl _

set_option maxRecDepth 100000 in
theorem rceil_calls (v : Value) (x : Rat) (k : Nat) (w : World) (hv : IsR w v x k) (hk : k ≤ 17592186044088) :
    Calls Try.prog 30 #[v] w fun e w' => ∃ v', e = .returned v' ∧ FrZ w.heap.size w' v' x.ceil ∧ szZ x.ceil ≤ k + 1 ∧ Ext w w' := by
  have Hv := Lib.hid hv
  have hsx := hv.sz
  obtain ⟨nx, dx, ⟨bx, sx, tx, mx, d0x, rfl, -⟩, -⟩ := hv
  have Hc := Lib.hid (Rat.ceil_eq_neg_floor_neg x)
  go_enter Try.func30, Try.ntmps30
  obtain ⟨w1, hw1, e1, b1, b2, s1⟩ := alloc2 w #[.bool bx, sx, tx] #[.bool false, .slice none 0 0] 28 24
  have hc0 := b1.cell 0
  have hc1 := b1.cell 1
  have hc2 := b1.cell 2
  rw [hw1] at hc0 hc1 hc2
  go_wp2_with fail
  rw [← hw1]
  clear hc0 hc1 hc2
  refine (rneg_calls _ x k _ (Hv.out.ext e1) (by omega)).mono ?_
  rintro e w2 ⟨v2, rfl, h2, e2⟩
  go_wp2_with fail
  refine (rfloor_calls _ (-x) k _ (h2.isR (by rw [szQ_neg]; exact hsx) (by rw [LIM_eq]; omega)) hk).mono ?_
  rintro e w3 ⟨v3, rfl, h3, hs3, e3⟩
  go_wp2_with fail
  refine (zneg_calls _ _ _ (h3.isZ (by rw [LIM_eq]; omega))).mono ?_
  rintro e w4 ⟨v4, rfl, h4, e4⟩
  obtain ⟨s', rfl, hn⟩ := h4
  rw [Int.natAbs_neg] at hn
  obtain ⟨ad, cap, rfl⟩ := hn.slice
  have Hn := Lib.hid hn
  clear hn
  have es2 := e2.size
  have es3 := e3.size
  have hb := ((b2.ext e2).ext e3).ext e4
  have hc0 := hb.cell 0
  have hc1 := hb.cell 1
  have hf0 := hb.free 0
  have hf1 := hb.free 1
  go_wp2
  refine ret_box 2 24 (w.heap.size + 1) 24 _ _ (by kernel_rfl) rfl ((hb.set 0 _).set 1 _) Try.underlying24 rfl (by kernel_rfl) rfl ?_
  rw [Hc.out, szZ_neg]
  exact ⟨_, rfl, ⟨.slice ad (sz W (-x).floor.natAbs) cap, by simp, by rw [Int.natAbs_neg]; exact ((Hn.out.chg (Chg.trans (Chg.setCell _ (w.heap.size + 1) 0 _) (Chg.setCell _ (w.heap.size + 1) 1 _))
 (by omega)).mono (by omega))⟩, hs3, (((e1.trans e2).trans e3).trans e4).step (Chg.trans (Chg.setCell _ (w.heap.size + 1) 0 _) (Chg.setCell _ (w.heap.size + 1) 1 _))
 (by omega)⟩

set_option maxRecDepth 100000 in
theorem floor_sz (n : Int) (d : Nat) (hd : 0 < d) : szZ (mkRat n d).floor + sz W d ≤ max (szZ n) (sz W d) + 2 := by
  rw [mkRat_floor n d hd, floor_fix n d hd]
  have h := sz_div n.natAbs d hd
  have hn : szZ n = sz W n.natAbs := rfl
  have hq : szZ (sgn (decide (n < 0)) (n.natAbs / d)) = sz W (n.natAbs / d) := by unfold szZ; rw [sgn_natAbs]
  split
  · have h1 := szZ_add (sgn (decide (n < 0)) (n.natAbs / d)) (-1)
    rw [← Int.sub_eq_add_neg] at h1
    rw [show szZ (-1) = 1 from rfl] at h1
    omega
  · omega
theorem ceil_sz (n : Int) (d : Nat) (hd : 0 < d) : szZ (mkRat n d).ceil + sz W d ≤ max (szZ n) (sz W d) + 2 := by
  rw [Rat.ceil_eq_neg_floor_neg, szZ_neg, show -(mkRat n d) = mkRat (-n) d from Rat.neg_mkRat n d]
  have := floor_sz (-n) d hd
  rwa [szZ_neg] at this
set_option maxRecDepth 100000 in
theorem rfrac2_calls (v : Value) (x : Rat) (a b : Nat) (w : World) (hv : IsS w v x a b) (ha : a ≤ 17592186044086) (hb : b ≤ 17592186044086) :
    Calls Try.prog 31 #[v] w fun e w' => ∃ v', e = .returned v' ∧ FrQ w.heap.size w' v' (x - (x.floor : Rat)) ∧ szQ (x - (x.floor : Rat)) ≤ max a b + 4 ∧ Ext w w' := by
  obtain ⟨K, hK⟩ : ∃ K, K = max a b + 4 := ⟨_, rfl⟩
  rw [← hK]
  obtain ⟨k, hk⟩ : ∃ k, k = max a b := ⟨_, rfl⟩
  have Hr := Lib.hid (hv.isR (k := k) (by omega) (by omega))
  obtain ⟨nx, dx, hq, hx, hnx, hdx⟩ := hv
  have hff : szZ x.floor + sz W dx ≤ max (szZ nx) (sz W dx) + 2 := by rw [hx]; exact floor_sz nx dx hq.pos
  have hd1 : 1 ≤ sz W dx := by
    have := sz_zero (n := dx)
    have := hq.pos
    omega
  have Hv := Lib.hid (show IsS w v x (szZ nx) (sz W dx) from ⟨nx, dx, hq, hx, Nat.le_refl _, Nat.le_refl _⟩)
  have hfs : szZ x.floor ≤ k + 1 := by omega
  have hf1 : szZ ((x.floor : Int) : Rat).num ≤ szZ x.floor := by rw [Rat.num_intCast]; exact Nat.le_refl _
  have hf2 : sz W ((x.floor : Int) : Rat).den ≤ 1 := by rw [Rat.den_intCast]; exact Nat.le_refl _
  clear hx
  obtain ⟨bx, sx, tx, mx, d0x, rfl, -⟩ := hq
  go_enter Try.func31, Try.ntmps31
  go_wp2_with fail
  obtain ⟨w1, hw1, e1, b1, b2, s1⟩ := alloc2 w #[.bool bx, sx, tx] #[.bool false, .slice none 0 0, .slice none 0 0] 28 28
  rw [← hw1]
  clear hw1
  refine wp_region_puts [⟨5, (w.heap.size + 1), 28, PP.frQS (x - (x.floor : Rat)) (K)⟩] [PP.val (.agg #[.bool bx, sx, tx]), PP.val (.agg #[.bool bx, sx, tx]), PP.frZ x.floor, PP.frQ (x.floor : Rat), PP.frQS (x - (x.floor : Rat)) (K), PP.any] [] [5, 4, 3, 2, 1, 0]
    (by kernel_rfl) (by kernel_rfl) (fun f => (by simp only [fillR, fillL, List.setIfInBounds_toArray, List.set_cons_succ, List.set_cons_zero, Nat.reduceAdd]; rfl)) ?_ ?_ ?_ ?_ ?_
  · intro x hx; simp only [List.mem_singleton] at hx; subst hx; exact ⟨by show (w.heap.size + 1) < w1.heap.size; omega, rfl⟩
  · intro x hx; simp only [List.mem_singleton] at hx; subst hx; rfl
  · intro x hx y hy h; simp only [List.mem_singleton] at hx hy; subst hx hy; exact absurd rfl h
  · refine ⟨?o0, ?o1, ?o2, ?o3, ?o4, ?o5, trivial⟩
    case o0 =>
      intro f w2 hG hp hl
      have hE : Ext w1 w2 := hG
      have hS := hE.size
      change OpGoal _ _ _ f w2 Ext _
      exact og_load (P := Try.prog) _ _ w.heap.size _ _ _ rfl rfl rfl (b1.ext hE) Try.underlying28 rfl (by kernel_rfl) rfl
    case o1 =>
      intro f w2 hG hp hl
      have hE : Ext w1 w2 := hG
      have hS := hE.size
      change OpGoal _ _ _ f w2 Ext _
      exact og_load (P := Try.prog) _ _ w.heap.size _ _ _ rfl rfl rfl (b1.ext hE) Try.underlying28 rfl (by kernel_rfl) rfl
    case o2 =>
      intro f w2 hG hp hl
      have hE : Ext w1 w2 := hG
      have hS := hE.size
      have q4 : f 1 = .agg #[.bool bx, sx, tx] := tellV hp 0 1 rfl rfl (fun h => by cases h)
      change OpGoal _ _ _ f w2 Ext _
      refine og_call (P := Try.prog) _ _ _ #[f 1] Try.func29 (by kernel_rfl) (by kernel_rfl) rfl rfl (by kernel_rfl) ?_
      rw [q4]
      refine (rfloor_calls _ x k _ (Hr.out.ext (e1.trans hE)) (by omega)).mono ?_
      rintro e w' ⟨v', rfl, h1, _, h2⟩
      exact ⟨v', rfl, h2, h1.mono hS⟩
    case o3 =>
      intro f w2 hG hp hl
      have hE : Ext w1 w2 := hG
      have hS := hE.size
      have q5 := tellV hp 0 2 rfl rfl (fun _ => hE)
      change OpGoal _ _ _ f w2 Ext _
      refine og_call (P := Try.prog) _ _ _ #[f 2] Try.func15 (by kernel_rfl) (by kernel_rfl) rfl rfl (by kernel_rfl) ?_
      refine (rofint_calls _ x.floor _ (q5.isZ (by rw [LIM_eq]; omega)) (by omega)).mono ?_
      rintro e w' ⟨v', rfl, h1, h2⟩
      exact ⟨v', rfl, h2, h1.mono hS⟩
    case o4 =>
      intro f w2 hG hp hl
      have hE : Ext w1 w2 := hG
      have hS := hE.size
      have q3 : f 0 = .agg #[.bool bx, sx, tx] := tellV hp 0 0 rfl rfl (fun h => by cases h)
      have q6 := tellV hp 1 3 rfl rfl (fun _ => hE)
      change OpGoal _ _ _ f w2 Ext _
      refine og_call (P := Try.prog) _ _ _ #[f 0, f 3] Try.func46 (by kernel_rfl) (by kernel_rfl) rfl rfl (by kernel_rfl) ?_
      rw [q3]
      refine (rsub2_calls _ _ x (x.floor : Rat) (szZ nx) (sz W dx) (szZ x.floor) 1 K _ (Hv.out.ext (e1.trans hE)) (q6.isS hf1 hf2 (by rw [LIM_eq]; omega) (by rw [LIM_eq]; omega)) (by omega) (by omega) (by omega) (by omega) (by omega) (by omega)).mono ?_
      rintro e w' ⟨v', rfl, h1, h3, h2⟩
      exact ⟨v', rfl, h2, h1.mono hS, by omega⟩
    case o5 =>
      intro f w2 hG hp hl
      have hE : Ext w1 w2 := hG
      have hS := hE.size
      have q7 := tellV hp 0 4 rfl rfl (fun _ => hE)
      intro hg0
      change OpGoal _ _ _ f w2 (Chg _) _
      obtain ⟨⟨s', t', hv, hn, hm⟩, hsz⟩ := q7
      exact og_store (P := Try.prog) _ _ _ (w.heap.size + 1) _ _ _ (PP.frQS _ _ : PP _).p rfl rfl rfl hv (show Bx 28 w2 _ _ from hg0.trans b2) (by kernel_rfl) rfl (all3 rfl hn.oneCell hm.oneCell) (fun w' h => ⟨⟨s', t', rfl, hn.chg h (by omega), hm.chg h (by omega)⟩, hsz⟩)
  · intro f w2 hG hp
    obtain ⟨cs0, hbx0, hz0⟩ : ∃ cs, Bx 28 w2 (w.heap.size + 1) cs ∧ (PP.frQS (x - (x.floor : Rat)) (K) : PP w1.heap.size).p (.agg cs) w2 := endS hp 5 (by decide)
    clear hp
    have hzs := hz0.2
    replace hz0 := hz0.1
    have hz1 := hz0.mono (show w.heap.size ≤ _ by omega)
    obtain ⟨s', t', hvv, hnn, hmm⟩ := hz0
    cases hvv
    go_wp2
    refine ret_box 2 28 (w.heap.size + 1) 28 _ _ (by kernel_rfl) rfl hbx0 Try.underlying28 rfl (by kernel_rfl) rfl ?_
    exact ⟨_, rfl, hz1, hzs, e1.stepS hG (by simp)⟩
theorem rfrac_calls (v : Value) (x : Rat) (k : Nat) (w : World) (hv : IsR w v x k) (hk : k ≤ 17179869180) :
    Calls Try.prog 31 #[v] w fun e w' => ∃ v', e = .returned v' ∧ FrQ w.heap.size w' v' (x - (x.floor : Rat)) ∧ szQ (x - (x.floor : Rat)) ≤ 2 * k + 4 ∧ Ext w w' :=
  (rfrac2_calls v x k k w hv.isS (by omega) (by omega)).mono fun e w' ⟨v', h1, h2, h3, h4⟩ => ⟨v', h1, h2, by omega, h4⟩

set_option maxRecDepth 100000 in
theorem riswhole2_calls (v : Value) (x : Rat) (a b : Nat) (w : World) (hv : IsS w v x a b) (ha : a ≤ 17592186044086) (hb : b ≤ 17592186044086) :
    Calls Try.prog 36 #[v] w fun e w' => e = .returned (.bool (decide (x = (x.floor : Rat)))) ∧ Ext w w' := by
  have Hv := Lib.hid hv
  obtain ⟨nx, dx, ⟨bx, sx, tx, mx, d0x, rfl, -⟩, -⟩ := hv
  have hns := num_sign x (x.floor : Rat)
  have hdec : decide ((x - (x.floor : Rat)).num.sign = 0) = decide (x = (x.floor : Rat)) := by
    rw [hns]
    unfold cmpR
    split
    · rename_i h; rw [decide_eq_false (Rat.ne_of_lt h)]; rfl
    · split
      · rename_i h1 h2; exact (decide_eq_true h2).symm
      · rename_i h1 h2; rw [decide_eq_false h2]; rfl
  have Hdec := Lib.hid hdec
  clear hns hdec
  go_enter Try.func36, Try.ntmps36
  obtain ⟨w1, hw1, e1, b1, s1⟩ := alloc1 w #[.bool bx, sx, tx] 28
  have hc0 := b1.cell 0
  have hc1 := b1.cell 1
  have hc2 := b1.cell 2
  rw [hw1] at hc0 hc1 hc2
  go_wp2_with fail
  rw [← hw1]
  clear hc0 hc1 hc2
  refine (rfrac2_calls _ x a b _ (Hv.out.ext e1) ha hb).mono ?_
  rintro e w2 ⟨v2, rfl, h2, hs2, e2⟩
  go_wp2_with fail
  refine (rsign_calls _ _ _ _ (h2.isR hs2 (by rw [LIM_eq]; omega))).mono ?_
  rintro e w3 ⟨rfl, e3⟩
  go_wp2
  go_ret
  exact ⟨by rw [← Hdec.out]; rfl, (e1.trans e2).trans e3⟩
theorem riswhole_calls (v : Value) (x : Rat) (k : Nat) (w : World) (hv : IsR w v x k) (hk : k ≤ 17179869180) :
    Calls Try.prog 36 #[v] w fun e w' => e = .returned (.bool (decide (x = (x.floor : Rat)))) ∧ Ext w w' :=
  riswhole2_calls v x k k w hv.isS (by omega) (by omega)
end Go.Proofs.Ytnefipinicfegaa
