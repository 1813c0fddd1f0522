/-
  zint: differences; quotients, rounded down, by what is above 0.
-/
import Derived.Test.YtnefipinicfegaaIntB
namespace Go.Proofs.Ytnefipinicfegaa
open Go.RowKit
set_option linter.unusedVariables false
set_option linter.unusedSimpArgs false

set_option maxRecDepth 100000 in
theorem Own.chgS {e : TypeId} {B : Nat} {w w' : World} {ad : Option Addr} {cap : Nat} {xs : List Value} {bs : List Nat} (h : Own e B w ad cap xs) (he : ChgS bs w w') (hb : ∀ g ∈ bs, g < B) : Own e B w' ad cap xs := by
  rcases h with h | ⟨g, cur, h1, h2, h3, h4⟩
  · exact .inl h
  · exact .inr ⟨g, cur, h1, h2, he.blk h3 (fun hm => by have := hb g hm; omega), h4⟩
set_option maxRecDepth 100000 in
theorem FrL.chgS {e : TypeId} {k : IntKind} {B0 : Nat} {w w' : World} {v : Value} {xs : List Nat} {bs : List Nat} (h : FrL e k B0 w v xs) (he : ChgS bs w w') (hb : ∀ g ∈ bs, g < B0) : FrL e k B0 w' v xs := by
  obtain ⟨ad, cap, h1, h2, h3, h4⟩ := h
  exact ⟨ad, cap, h1, h2, h3, h4.chgS he hb⟩
set_option maxRecDepth 100000 in
theorem FrN.chgS {e : TypeId} {k : IntKind} {B B0 : Nat} {w w' : World} {v : Value} {n : Nat} {bs : List Nat} (h : FrN e k B B0 w v n) (he : ChgS bs w w') (hb : ∀ g ∈ bs, g < B0) : FrN e k B B0 w' v n := FrL.chgS h he hb
set_option maxRecDepth 100000 in
theorem FrZ.chgS {B0 : Nat} {w w' : World} {v : Value} {z : Int} {bs : List Nat} (h : FrZ B0 w v z) (he : ChgS bs w w') (hb : ∀ g ∈ bs, g < B0) : FrZ B0 w' v z := by
  obtain ⟨s, h1, h2⟩ := h
  exact ⟨s, h1, h2.chgS he hb⟩

set_option maxRecDepth 100000 in
theorem szZ_add (x y : Int) : szZ (x + y) ≤ max (szZ x) (szZ y) + 1 := by
  unfold szZ
  exact Nat.le_trans (sz_mono (Int.natAbs_add_le x y)) (sz_add _ _)
set_option maxRecDepth 100000 in
theorem szZ_mul (x y : Int) : szZ (x * y) ≤ szZ x + szZ y := by
  unfold szZ
  rw [Int.natAbs_mul]
  exact sz_mul _ _
set_option maxRecDepth 100000 in
theorem szZ_neg (x : Int) : szZ (-x) = szZ x := by unfold szZ; rw [Int.natAbs_neg]

set_option maxRecDepth 100000 in
theorem zsub_calls (v u : Value) (x y : Int) (w : World) (hv : IsZ w v x) (hu : IsZ w u y) (hsx : szZ x ≤ 17592186044096) (hsy : szZ y ≤ 17592186044096) :
    Calls Try.prog 92 #[v, u] w fun e w' => ∃ v', e = .returned v' ∧ FrZ w.heap.size w' v' (x - y) ∧ Ext w w' := by
  have hV := Lib.hid hv
  have hU := Lib.hid hu
  obtain ⟨b, s, n, rfl, hs, hx⟩ := hv
  obtain ⟨c, t, m, rfl, ht, hy⟩ := hu
  go_enter Try.func92, Try.ntmps92
  go_wp2_with fail
  obtain ⟨w1, hw1, e1, b1, b2, b3, s1⟩ := alloc3 w #[.bool b, s] #[.bool c, t] #[.bool false, .slice none 0 0] 24 24 24
  rw [← hw1]
  clear hw1
  refine wp_region_puts [⟨4, (w.heap.size + 2), 24, PP.frZ (x + -y)⟩] [PP.val (.agg #[.bool b, s]), PP.val (.agg #[.bool c, t]), PP.frZ (-y), PP.frZ (x + -y), PP.any] [] [4, 3, 2, 1, 0]
    (by kernel_rfl) (by kernel_rfl) (fun f => (by simp only [fillR, fillL, List.setIfInBounds_toArray, List.set_cons_succ, List.set_cons_zero, Nat.reduceAdd]; rfl)) ?_ ?_ ?_ ?_ ?_
  · intro x hx; simp only [List.mem_singleton] at hx; subst hx; exact ⟨by show (w.heap.size + 2) < w1.heap.size; omega, rfl⟩
  · intro x hx; simp only [List.mem_singleton] at hx; subst hx; rfl
  · intro x hx y hy h; simp only [List.mem_singleton] at hx hy; subst hx hy; exact absurd rfl h
  · refine ⟨?o0, ?o1, ?o2, ?o3, ?o4, trivial⟩
    case o0 =>
      intro f w2 hG hp hl
      have hE : Ext w1 w2 := hG
      have hS := hE.size
      change OpGoal _ _ _ f w2 Ext _
      exact og_load (P := Try.prog) _ _ w.heap.size _ _ _ rfl rfl rfl (b1.ext hE) Try.underlying24 rfl (by kernel_rfl) rfl
    case o1 =>
      intro f w2 hG hp hl
      have hE : Ext w1 w2 := hG
      have hS := hE.size
      change OpGoal _ _ _ f w2 Ext _
      exact og_load (P := Try.prog) _ _ (w.heap.size + 1) _ _ _ rfl rfl rfl (b2.ext hE) Try.underlying24 rfl (by kernel_rfl) rfl
    case o2 =>
      intro f w2 hG hp hl
      have hE : Ext w1 w2 := hG
      have hS := hE.size
      have q6 : f 1 = .agg #[.bool c, t] := tellV hp 0 1 rfl rfl (fun h => by cases h)
      change OpGoal _ _ _ f w2 Ext _
      refine og_call (P := Try.prog) _ _ _ #[f 1] Try.func68 (by kernel_rfl) (by kernel_rfl) rfl rfl (by kernel_rfl) ?_
      rw [q6]
      refine (zneg_calls _ y _ (hU.out.ext (e1.trans hE))).mono ?_
      rintro e w' ⟨v', rfl, h1, h2⟩
      exact ⟨v', rfl, h2, h1.mono hS⟩
    case o3 =>
      intro f w2 hG hp hl
      have hE : Ext w1 w2 := hG
      have hS := hE.size
      have q5 : f 0 = .agg #[.bool b, s] := tellV hp 0 0 rfl rfl (fun h => by cases h)
      have q7 := tellV hp 1 2 rfl rfl (fun _ => hE)
      change OpGoal _ _ _ f w2 Ext _
      refine og_call (P := Try.prog) _ _ _ #[f 0, f 2] Try.func77 (by kernel_rfl) (by kernel_rfl) rfl rfl (by kernel_rfl) ?_
      rw [q5]
      refine (zadd_calls _ _ x (-y) _ (hV.out.ext (e1.trans hE)) (q7.isZ (by rw [szZ_neg, LIM_eq]; omega)) hsx (by rw [szZ_neg]; exact hsy)).mono ?_
      rintro e w' ⟨v', rfl, h1, h2⟩
      exact ⟨v', rfl, h2, h1.mono hS⟩
    case o4 =>
      intro f w2 hG hp hl
      have hE : Ext w1 w2 := hG
      have hS := hE.size
      have q8 := tellV hp 0 3 rfl rfl (fun _ => hE)
      intro hg0
      change OpGoal _ _ _ f w2 (Chg _) _
      obtain ⟨s', hv, hn⟩ := q8
      exact og_store (P := Try.prog) _ _ _ (w.heap.size + 2) _ _ _ (PP.frZ _ : PP _).p rfl rfl rfl hv (show Bx 24 w2 _ _ from hg0.trans b3) (by kernel_rfl) rfl (all2 rfl hn.oneCell) (fun w' h => ⟨s', rfl, hn.chg h (by omega)⟩)
  · intro f w2 hG hp
    obtain ⟨cs0, hbx0, hz0⟩ : ∃ cs, Bx 24 w2 (w.heap.size + 2) cs ∧ (PP.frZ (x + -y) : PP w1.heap.size).p (.agg cs) w2 := endS hp 4 (by decide)
    clear hp
    have hz1 := hz0.mono (show w.heap.size ≤ _ by omega)
    obtain ⟨s', hv, hn⟩ := hz0
    cases hv
    go_wp2
    refine ret_box 4 24 (w.heap.size + 2) 24 _ _ (by kernel_rfl) rfl hbx0 Try.underlying24 rfl (by kernel_rfl) rfl ?_
    rw [Int.sub_eq_add_neg]
    exact ⟨_, rfl, hz1, e1.stepS hG (by simp)⟩

set_option maxRecDepth 100000 in
theorem floor_fix (x : Int) (y : Nat) (hy : 0 < y) : x / (y : Int) = if x < 0 ∧ 0 < x.natAbs % y then sgn (decide (x < 0)) (x.natAbs / y) - 1 else sgn (decide (x < 0)) (x.natAbs / y) := by
  have h1 := Nat.div_add_mod x.natAbs y
  have h2 := Nat.mod_lt x.natAbs hy
  by_cases hx : x < 0
  · have e : x = -((y : Int) * ((x.natAbs / y : Nat) : Int) + ((x.natAbs % y : Nat) : Int)) := by
      rw [← Int.natCast_mul, ← Int.natCast_add, h1]; omega
    generalize x.natAbs / y = q at *
    generalize x.natAbs % y = r at *
    simp only [hx, decide_true, sgn, if_true, true_and]
    split
    · refine ((Int.ediv_emod_unique (r := (y : Int) - r) (by omega)).2 ⟨?_, by omega, by omega⟩).1
      rw [e, Int.mul_sub, Int.mul_neg]
      omega
    · refine ((Int.ediv_emod_unique (r := 0) (by omega)).2 ⟨?_, by omega, by omega⟩).1
      rw [e, Int.mul_neg]
      omega
  · rw [if_neg (by omega), decide_eq_false hx]
    simp only [sgn, if_false, Bool.false_eq_true]
    rw [Int.natCast_ediv]
    congr 1
    omega

theorem sz_div (n y : Nat) (hy : 0 < y) : sz W (n / y) + sz W y ≤ max (sz W n) (sz W y) + 1 := by
  by_cases h : n < y
  · rw [Nat.div_eq_of_lt h]
    have : sz W 0 = 0 := rfl
    omega
  · have h1 : sz W y ≤ sz W n := sz_mono (by omega)
    have h0 : sz W y ≠ 0 := fun e => by have := sz_zero.1 e; omega
    have hy1 : W ^ (sz W y - 1) ≤ y := by
      rcases Nat.lt_or_ge y (W ^ (sz W y - 1)) with h2 | h2
      · have : sz W y ≤ sz W y - 1 := dg_len_le W_gt h2
        omega
      · exact h2
    have hn : n < W ^ sz W n := dg_len_lt W_gt n
    have h3 : n / y < W ^ (sz W n - sz W y + 1) := by
      rw [Nat.div_lt_iff_lt_mul hy]
      have e : W ^ sz W n = W ^ (sz W n - sz W y + 1) * W ^ (sz W y - 1) := by
        rw [← Nat.pow_add]; congr 1; omega
      exact Nat.lt_of_lt_of_le (e ▸ hn) (Nat.mul_le_mul_left _ hy1)
    have h4 : sz W (n / y) ≤ sz W n - sz W y + 1 := dg_len_le W_gt h3
    omega

set_option maxRecDepth 100000 in
set_option maxHeartbeats 4000000 in
set_option maxRecDepth 100000 in
theorem zdivfloor_calls (v t : Value) (x : Int) (y : Nat) (w : World) (hv : IsZ w v x) (ht : IsN .u64 W w t y) (hy : 0 < y) (hsx : szZ x ≤ 17592186044088) (hsy : sz W y ≤ 17592186044088) :
    Calls Try.prog 66 #[v, .agg #[.bool false, t]] w fun e w' => ∃ v1 v2, e = .returned (.tuple #[v1, v2, .int .i64 0]) ∧ FrZ w.heap.size w' v1 (x / (y : Int)) ∧ FrZ w.heap.size w' v2 (x % (y : Int)) ∧ Ext w w' := by
  have hV := Lib.hid hv
  obtain ⟨b, s, n, rfl, hs, hx⟩ := hv
  have hsn : sz W n ≤ 17592186044088 := by rw [hx] at hsx; unfold szZ at hsx; rwa [sgn_natAbs] at hsx
  go_enter Try.func66, Try.ntmps66
  go_wp2_with fail
  obtain ⟨w1, hw1, e1, b1, b2, b3, b4, s1⟩ := alloc4 w #[.bool b, s] #[.bool false, t] #[.bool false, .slice none 0 0] #[.bool false, .slice none 0 0] 24 24 24 24
  rw [← hw1]
  clear hw1
  refine (divmod_calls _ _ n y _ (hs.ext e1) (ht.ext e1) hy (by omega)).mono ?_
  rintro e w2 ⟨vq, vr, rfl, hq, hr, e2⟩
  have hc0 := (b1.ext e2).cell 0
  have hc1 := (b2.ext e2).cell 0
  go_wp2_with fail
  refine (make_calls _ vq (n / y) _ (hq.isC.isN W_gt (Nat.le_trans (sz_mono (Nat.div_le_self n y)) (by rw [LIM_eq]; omega)))).mono ?_
  rintro e w3 ⟨vz, rfl, hz, e3⟩
  obtain ⟨s', rfl, hn⟩ := hz
  obtain ⟨ad, cap, rfl⟩ := hn.slice
  obtain ⟨adr, capr, rfl⟩ := hr.slice
  have Hn := Lib.hid hn
  have Hr := Lib.hid hr
  have hrz := @sz_zero (n % y)
  clear hn hr
  have hY : IsZ w (.agg #[.bool false, t]) (y : Int) := ⟨false, t, y, rfl, ht, rfl⟩
  have hszy : szZ (y : Int) = sz W y := rfl
  obtain ⟨w4, hw4, e4, b5, s4⟩ := alloc1 w3 #[.bool (decide (sgn b (n / y) < 0)), .slice ad (sz W (sgn b (n / y)).natAbs) cap] 24
  have E := ((e1.trans e2).trans e3).trans e4
  have B1 := ((b1.ext e2).ext e3).ext e4
  have B2 := ((b2.ext e2).ext e3).ext e4
  have B3 := ((b3.ext e2).ext e3).ext e4
  have B4 := ((b4.ext e2).ext e3).ext e4
  have hsz2 := e2.size
  have hsz3 := e3.size
  have hd0 := B1.cell 0
  have hd1 := B2.cell 0
  have hfl := floor_fix x y hy
  have hxn : x.natAbs = n := by rw [hx, sgn_natAbs]
  have hsg : sgn (decide (x < 0)) n = x := by rw [← hxn]; exact sgn_self x
  rw [hw4] at hd0 hd1
  cases b
  · have hx0 : x / (y : Int) = sgn false (n / y) := by
      have : ¬ x < 0 := by rw [hx, sgn_lt]; simp
      rw [hfl, if_neg (by omega), hxn, decide_eq_false this]
    have Hx := Lib.hid hx
    have Hsg := Lib.hid hsg
    have Hfl := Lib.hid hfl
    clear hx hsg hfl
    go_wp2_with fail
    rw [← hw4]
    have Hq : FrZ (w.heap.size + 4) w4 _ (sgn false (n / y)) := ⟨_, rfl, (Hn.out.ext e4).mono (by omega)⟩
    have Hsz : szZ (sgn false (n / y)) + sz W y ≤ 17592186044090 := by unfold szZ; rw [sgn_natAbs]; have := sz_div n y hy; omega
    have O10 : (Value.slice ad (sz W (sgn false (n / y)).natAbs) cap).oneCell' = true := rfl
    have B5 := b5
    have S := s1
    refine wp_region_puts [⟨6, (w.heap.size + 2), 24, PP.val (.agg #[.bool (decide (sgn false (n / y) < 0)), .slice ad (sz W (sgn false (n / y)).natAbs) cap])⟩, ⟨7, (w.heap.size + 3), 24, PP.frZ (x - sgn false (n / y) * (y : Int))⟩] [PP.val (.agg #[.bool (decide (sgn false (n / y) < 0)), .slice ad (sz W (sgn false (n / y)).natAbs) cap]), PP.val (.agg #[.bool false, s]), PP.val (.agg #[.bool (decide (sgn false (n / y) < 0)), .slice ad (sz W (sgn false (n / y)).natAbs) cap]), PP.val (.agg #[.bool false, t]), PP.frZ (sgn false (n / y) * (y : Int)), PP.frZ (x - sgn false (n / y) * (y : Int)), PP.any, PP.any, PP.val (.int .i64 0)] [] [6, 5, 4, 3, 2, 1, 0]
      (by kernel_rfl) (by kernel_rfl) (fun f => (by simp only [fillR, fillL, List.setIfInBounds_toArray, List.set_cons_succ, List.set_cons_zero, Nat.reduceAdd]; rfl)) ?_ ?_ ?_ ?_ ?_
    · intro x hx; simp only [List.mem_cons, List.not_mem_nil, or_false] at hx; rcases hx with rfl | rfl
      · exact ⟨by show (w.heap.size + 2) < w4.heap.size; omega, rfl⟩
      · exact ⟨by show (w.heap.size + 3) < w4.heap.size; omega, rfl⟩
    · intro x hx; simp only [List.mem_cons, List.not_mem_nil, or_false] at hx; rcases hx with rfl | rfl <;> rfl
    · intro x hx y hy h; simp only [List.mem_cons, List.not_mem_nil, or_false] at hx hy; rcases hx with rfl | rfl <;> rcases hy with rfl | rfl
      · exact absurd rfl h
      · show (w.heap.size + 2) ≠ (w.heap.size + 3); omega
      · show (w.heap.size + 3) ≠ (w.heap.size + 2); omega
      · exact absurd rfl h
    · refine ⟨?o0, ?o1, ?o2, ?o3, ?o4, ?o5, ?o6, ?o7, ?o8, trivial⟩
      case o0 =>
        intro f w2 hG hp hl
        have hE : Ext w4 w2 := hG
        have hS := hE.size
        change OpGoal _ _ _ f w2 Ext _
        exact og_load (P := Try.prog) _ _ w3.heap.size _ _ _ rfl rfl rfl (B5.ext hE) Try.underlying24 rfl (by kernel_rfl) rfl
      case o1 =>
        intro f w2 hG hp hl
        have hE : Ext w4 w2 := hG
        have hS := hE.size
        change OpGoal _ _ _ f w2 Ext _
        exact og_load (P := Try.prog) _ _ w.heap.size _ _ _ rfl rfl rfl (B1.ext hE) Try.underlying24 rfl (by kernel_rfl) rfl
      case o2 =>
        intro f w2 hG hp hl
        have hE : Ext w4 w2 := hG
        have hS := hE.size
        change OpGoal _ _ _ f w2 Ext _
        exact og_load (P := Try.prog) _ _ w3.heap.size _ _ _ rfl rfl rfl (B5.ext hE) Try.underlying24 rfl (by kernel_rfl) rfl
      case o3 =>
        intro f w2 hG hp hl
        have hE : Ext w4 w2 := hG
        have hS := hE.size
        change OpGoal _ _ _ f w2 Ext _
        exact og_load (P := Try.prog) _ _ (w.heap.size + 1) _ _ _ rfl rfl rfl (B2.ext hE) Try.underlying24 rfl (by kernel_rfl) rfl
      case o4 =>
        intro f w2 hG hp hl
        have hE : Ext w4 w2 := hG
        have hS := hE.size
        have q47 : f 2 = .agg #[.bool (decide (sgn false (n / y) < 0)), .slice ad (sz W (sgn false (n / y)).natAbs) cap] := tellV hp 0 2 rfl rfl (fun h => by cases h)
        have q48 : f 3 = .agg #[.bool false, t] := tellV hp 1 3 rfl rfl (fun h => by cases h)
        change OpGoal _ _ _ f w2 Ext _
        refine og_call (P := Try.prog) _ _ _ #[f 2, f 3] Try.func75 (by kernel_rfl) (by kernel_rfl) rfl rfl (by kernel_rfl) ?_
        rw [q47, q48]
        refine (zmul_calls _ _ (sgn false (n / y)) (y : Int) _ ((Hq.isZ (by rw [LIM_eq]; omega)).ext hE) (hY.ext (E.trans hE)) (by rw [hszy]; omega)).mono ?_
        rintro e w' ⟨v', rfl, h1, h2⟩
        exact ⟨v', rfl, h2, h1.mono hS⟩
      case o5 =>
        intro f w2 hG hp hl
        have hE : Ext w4 w2 := hG
        have hS := hE.size
        have q46 : f 1 = .agg #[.bool false, s] := tellV hp 0 1 rfl rfl (fun h => by cases h)
        have q49 := tellV hp 1 4 rfl rfl (fun _ => hE)
        change OpGoal _ _ _ f w2 Ext _
        refine og_call (P := Try.prog) _ _ _ #[f 1, f 4] Try.func92 (by kernel_rfl) (by kernel_rfl) rfl rfl (by kernel_rfl) ?_
        rw [q46]
        refine (zsub_calls _ _ x (sgn false (n / y) * (y : Int)) _ (hV.out.ext (E.trans hE)) (q49.isZ (by have := szZ_mul (sgn false (n / y)) (y : Int); rw [LIM_eq]; omega)) (by omega) (by have := szZ_mul (sgn false (n / y)) (y : Int); omega)).mono ?_
        rintro e w' ⟨v', rfl, h1, h2⟩
        exact ⟨v', rfl, h2, h1.mono hS⟩
      case o6 =>
        intro f w2 hG hp hl
        have hE : Ext w4 w2 := hG
        have hS := hE.size
        have q45 : f 0 = .agg #[.bool (decide (sgn false (n / y) < 0)), .slice ad (sz W (sgn false (n / y)).natAbs) cap] := tellV hp 0 0 rfl rfl (fun h => by cases h)
        intro hg0
        change OpGoal _ _ _ f w2 (Chg _) _
        exact og_store (P := Try.prog) _ _ _ (w.heap.size + 2) _ _ _ (PP.val _ : PP _).p rfl rfl rfl q45 (show Bx 24 w2 _ _ from hg0.trans B3) (by kernel_rfl) rfl (all2 rfl O10) (fun w' h => rfl)
      case o7 =>
        intro f w2 hG hp hl
        have hS : w4.heap.size ≤ w2.heap.size := hG.2.2.2.1
        have q50 := tellV hp 0 5 rfl rfl (fun _ => by contradiction)
        intro hg0
        change OpGoal _ _ _ f w2 (Chg _) _
        obtain ⟨s', hv, hn⟩ := q50
        exact og_store (P := Try.prog) _ _ _ (w.heap.size + 3) _ _ _ (PP.frZ _ : PP _).p rfl rfl rfl hv (show Bx 24 w2 _ _ from hg0.trans B4) (by kernel_rfl) rfl (all2 rfl hn.oneCell) (fun w' h => ⟨s', rfl, hn.chg h (by omega)⟩)
      case o8 =>
        intro f w2 hG hp hl
        have hS : w4.heap.size ≤ w2.heap.size := hG.2.2.2.1
        simp only [OpGoal]
        go_simp
        exact ⟨_, rfl, Ext.refl _, rfl⟩
    · intro f w2 hG hp
      obtain ⟨cs0, hbx0, hz0⟩ : ∃ cs, Bx 24 w2 (w.heap.size + 2) cs ∧ (PP.val (.agg #[.bool (decide (sgn false (n / y) < 0)), .slice ad (sz W (sgn false (n / y)).natAbs) cap]) : PP w4.heap.size).p (.agg cs) w2 := endS hp 6 (by decide)
      obtain ⟨cs1, hbx1, hz1⟩ : ∃ cs, Bx 24 w2 (w.heap.size + 3) cs ∧ (PP.frZ (x - sgn false (n / y) * (y : Int)) : PP w4.heap.size).p (.agg cs) w2 := endS hp 7 (by decide)
      have q6 : f 8 = .int .i64 0 := endV hp 8 (by decide) rfl (fun h => by cases h)
      clear hp
      have hz2 := hz1.mono (show w.heap.size ≤ _ by omega)
      obtain ⟨s', hv, hn⟩ := hz1
      cases hv
      cases hz0
      go_wp2
      have hm : x % (y : Int) = x - sgn false (n / y) * (y : Int) := by rw [Int.emod_def, hx0, Int.mul_comm]
      refine ret_box3 4 5 6 24 24 (w.heap.size + 2) (w.heap.size + 3) 24 24 _ _ _ _ _ (by kernel_rfl) rfl rfl q6 hbx0 hbx1 Try.underlying24 rfl (by kernel_rfl) Try.underlying24 rfl (by kernel_rfl) rfl ?_
      refine ⟨_, _, rfl, ?_, ?_, E.stepS hG (by simp)⟩
      · rw [hx0]; exact (Hq.chgS hG (by simp)).mono (by omega)
      · rw [hm]; exact hz2
  · have hx0' : x / (y : Int) = if 0 < n % y then sgn true (n / y) - 1 else sgn true (n / y) := by
      rw [hfl, hxn]
      rcases Nat.eq_zero_or_pos n with h0 | h0
      · have : ¬ x < 0 := by rw [hx, sgn_lt]; omega
        subst h0
        rw [if_neg (by omega), if_neg (by simp)]
        simp [sgn]
      · have : x < 0 := by rw [hx, sgn_lt]; exact ⟨rfl, h0⟩
        simp only [this, true_and, decide_true]
    have Hx := Lib.hid hx
    have Hsg := Lib.hid hsg
    have Hfl := Lib.hid hfl
    clear hx hsg hfl
    have Hsz0 : szZ (sgn true (n / y)) + sz W y ≤ 17592186044089 := by unfold szZ; rw [sgn_natAbs]; have := sz_div n y hy; omega
    have Hq0 : FrZ (w.heap.size + 4) w4 _ (sgn true (n / y)) := ⟨_, rfl, (Hn.out.ext e4).mono (by omega)⟩
    by_cases hr0 : n % y = 0
    · have hx0 : x / (y : Int) = sgn true (n / y) := by rw [hx0', if_neg (by omega)]
      have Hx0 := Lib.hid hx0'
      clear hx0'
      go_wp2_with fail
      rw [← hw4]
      have Hq := Hq0
      have Hsz : szZ (sgn true (n / y)) + sz W y ≤ 17592186044090 := by omega
      have O10 : (Value.slice ad (sz W (sgn true (n / y)).natAbs) cap).oneCell' = true := rfl
      have B5 := b5
      have S := s1
      refine wp_region_puts [⟨6, (w.heap.size + 2), 24, PP.val (.agg #[.bool (decide (sgn true (n / y) < 0)), .slice ad (sz W (sgn true (n / y)).natAbs) cap])⟩, ⟨7, (w.heap.size + 3), 24, PP.frZ (x - sgn true (n / y) * (y : Int))⟩] [PP.val (.agg #[.bool (decide (sgn true (n / y) < 0)), .slice ad (sz W (sgn true (n / y)).natAbs) cap]), PP.val (.agg #[.bool true, s]), PP.val (.agg #[.bool (decide (sgn true (n / y) < 0)), .slice ad (sz W (sgn true (n / y)).natAbs) cap]), PP.val (.agg #[.bool false, t]), PP.frZ (sgn true (n / y) * (y : Int)), PP.frZ (x - sgn true (n / y) * (y : Int)), PP.any, PP.any, PP.val (.int .i64 0)] [] [6, 5, 4, 3, 2, 1, 0]
        (by kernel_rfl) (by kernel_rfl) (fun f => (by simp only [fillR, fillL, List.setIfInBounds_toArray, List.set_cons_succ, List.set_cons_zero, Nat.reduceAdd]; rfl)) ?_ ?_ ?_ ?_ ?_
      · intro x hx; simp only [List.mem_cons, List.not_mem_nil, or_false] at hx; rcases hx with rfl | rfl
        · exact ⟨by show (w.heap.size + 2) < w4.heap.size; omega, rfl⟩
        · exact ⟨by show (w.heap.size + 3) < w4.heap.size; omega, rfl⟩
      · intro x hx; simp only [List.mem_cons, List.not_mem_nil, or_false] at hx; rcases hx with rfl | rfl <;> rfl
      · intro x hx y hy h; simp only [List.mem_cons, List.not_mem_nil, or_false] at hx hy; rcases hx with rfl | rfl <;> rcases hy with rfl | rfl
        · exact absurd rfl h
        · show (w.heap.size + 2) ≠ (w.heap.size + 3); omega
        · show (w.heap.size + 3) ≠ (w.heap.size + 2); omega
        · exact absurd rfl h
      · refine ⟨?o0, ?o1, ?o2, ?o3, ?o4, ?o5, ?o6, ?o7, ?o8, trivial⟩
        case o0 =>
          intro f w2 hG hp hl
          have hE : Ext w4 w2 := hG
          have hS := hE.size
          change OpGoal _ _ _ f w2 Ext _
          exact og_load (P := Try.prog) _ _ w3.heap.size _ _ _ rfl rfl rfl (B5.ext hE) Try.underlying24 rfl (by kernel_rfl) rfl
        case o1 =>
          intro f w2 hG hp hl
          have hE : Ext w4 w2 := hG
          have hS := hE.size
          change OpGoal _ _ _ f w2 Ext _
          exact og_load (P := Try.prog) _ _ w.heap.size _ _ _ rfl rfl rfl (B1.ext hE) Try.underlying24 rfl (by kernel_rfl) rfl
        case o2 =>
          intro f w2 hG hp hl
          have hE : Ext w4 w2 := hG
          have hS := hE.size
          change OpGoal _ _ _ f w2 Ext _
          exact og_load (P := Try.prog) _ _ w3.heap.size _ _ _ rfl rfl rfl (B5.ext hE) Try.underlying24 rfl (by kernel_rfl) rfl
        case o3 =>
          intro f w2 hG hp hl
          have hE : Ext w4 w2 := hG
          have hS := hE.size
          change OpGoal _ _ _ f w2 Ext _
          exact og_load (P := Try.prog) _ _ (w.heap.size + 1) _ _ _ rfl rfl rfl (B2.ext hE) Try.underlying24 rfl (by kernel_rfl) rfl
        case o4 =>
          intro f w2 hG hp hl
          have hE : Ext w4 w2 := hG
          have hS := hE.size
          have q47 : f 2 = .agg #[.bool (decide (sgn true (n / y) < 0)), .slice ad (sz W (sgn true (n / y)).natAbs) cap] := tellV hp 0 2 rfl rfl (fun h => by cases h)
          have q48 : f 3 = .agg #[.bool false, t] := tellV hp 1 3 rfl rfl (fun h => by cases h)
          change OpGoal _ _ _ f w2 Ext _
          refine og_call (P := Try.prog) _ _ _ #[f 2, f 3] Try.func75 (by kernel_rfl) (by kernel_rfl) rfl rfl (by kernel_rfl) ?_
          rw [q47, q48]
          refine (zmul_calls _ _ (sgn true (n / y)) (y : Int) _ ((Hq.isZ (by rw [LIM_eq]; omega)).ext hE) (hY.ext (E.trans hE)) (by rw [hszy]; omega)).mono ?_
          rintro e w' ⟨v', rfl, h1, h2⟩
          exact ⟨v', rfl, h2, h1.mono hS⟩
        case o5 =>
          intro f w2 hG hp hl
          have hE : Ext w4 w2 := hG
          have hS := hE.size
          have q46 : f 1 = .agg #[.bool true, s] := tellV hp 0 1 rfl rfl (fun h => by cases h)
          have q49 := tellV hp 1 4 rfl rfl (fun _ => hE)
          change OpGoal _ _ _ f w2 Ext _
          refine og_call (P := Try.prog) _ _ _ #[f 1, f 4] Try.func92 (by kernel_rfl) (by kernel_rfl) rfl rfl (by kernel_rfl) ?_
          rw [q46]
          refine (zsub_calls _ _ x (sgn true (n / y) * (y : Int)) _ (hV.out.ext (E.trans hE)) (q49.isZ (by have := szZ_mul (sgn true (n / y)) (y : Int); rw [LIM_eq]; omega)) (by omega) (by have := szZ_mul (sgn true (n / y)) (y : Int); omega)).mono ?_
          rintro e w' ⟨v', rfl, h1, h2⟩
          exact ⟨v', rfl, h2, h1.mono hS⟩
        case o6 =>
          intro f w2 hG hp hl
          have hE : Ext w4 w2 := hG
          have hS := hE.size
          have q45 : f 0 = .agg #[.bool (decide (sgn true (n / y) < 0)), .slice ad (sz W (sgn true (n / y)).natAbs) cap] := tellV hp 0 0 rfl rfl (fun h => by cases h)
          intro hg0
          change OpGoal _ _ _ f w2 (Chg _) _
          exact og_store (P := Try.prog) _ _ _ (w.heap.size + 2) _ _ _ (PP.val _ : PP _).p rfl rfl rfl q45 (show Bx 24 w2 _ _ from hg0.trans B3) (by kernel_rfl) rfl (all2 rfl O10) (fun w' h => rfl)
        case o7 =>
          intro f w2 hG hp hl
          have hS : w4.heap.size ≤ w2.heap.size := hG.2.2.2.1
          have q50 := tellV hp 0 5 rfl rfl (fun _ => by contradiction)
          intro hg0
          change OpGoal _ _ _ f w2 (Chg _) _
          obtain ⟨s', hv, hn⟩ := q50
          exact og_store (P := Try.prog) _ _ _ (w.heap.size + 3) _ _ _ (PP.frZ _ : PP _).p rfl rfl rfl hv (show Bx 24 w2 _ _ from hg0.trans B4) (by kernel_rfl) rfl (all2 rfl hn.oneCell) (fun w' h => ⟨s', rfl, hn.chg h (by omega)⟩)
        case o8 =>
          intro f w2 hG hp hl
          have hS : w4.heap.size ≤ w2.heap.size := hG.2.2.2.1
          simp only [OpGoal]
          go_simp
          exact ⟨_, rfl, Ext.refl _, rfl⟩
      · intro f w2 hG hp
        obtain ⟨cs0, hbx0, hz0⟩ : ∃ cs, Bx 24 w2 (w.heap.size + 2) cs ∧ (PP.val (.agg #[.bool (decide (sgn true (n / y) < 0)), .slice ad (sz W (sgn true (n / y)).natAbs) cap]) : PP w4.heap.size).p (.agg cs) w2 := endS hp 6 (by decide)
        obtain ⟨cs1, hbx1, hz1⟩ : ∃ cs, Bx 24 w2 (w.heap.size + 3) cs ∧ (PP.frZ (x - sgn true (n / y) * (y : Int)) : PP w4.heap.size).p (.agg cs) w2 := endS hp 7 (by decide)
        have q6 : f 8 = .int .i64 0 := endV hp 8 (by decide) rfl (fun h => by cases h)
        clear hp
        have hz2 := hz1.mono (show w.heap.size ≤ _ by omega)
        obtain ⟨s', hv, hn⟩ := hz1
        cases hv
        cases hz0
        go_wp2
        have hm : x % (y : Int) = x - sgn true (n / y) * (y : Int) := by rw [Int.emod_def, hx0, Int.mul_comm]
        refine ret_box3 4 5 6 24 24 (w.heap.size + 2) (w.heap.size + 3) 24 24 _ _ _ _ _ (by kernel_rfl) rfl rfl q6 hbx0 hbx1 Try.underlying24 rfl (by kernel_rfl) Try.underlying24 rfl (by kernel_rfl) rfl ?_
        refine ⟨_, _, rfl, ?_, ?_, E.stepS hG (by simp)⟩
        · rw [hx0]; exact (Hq.chgS hG (by simp)).mono (by omega)
        · rw [hm]; exact hz2
    · have hx0 : x / (y : Int) = sgn true (n / y) - 1 := by rw [hx0', if_pos (by omega)]
      have Hx0 := Lib.hid hx0'
      clear hx0'
      go_wp2_with fail
      rw [← hw4]
      refine wp_region_puts [⟨3, w3.heap.size, 24, PP.frZ (sgn true (n / y) - 1)⟩] [PP.val (.agg #[.bool (decide (sgn true (n / y) < 0)), .slice ad (sz W (sgn true (n / y)).natAbs) cap]), PP.frZ 1, PP.frZ (sgn true (n / y) - 1), PP.any] [] [3, 2, 1, 0]
        (by kernel_rfl) (by kernel_rfl) (fun f => (by simp only [fillR, fillL, List.setIfInBounds_toArray, List.set_cons_succ, List.set_cons_zero, Nat.reduceAdd]; rfl)) ?_ ?_ ?_ ?_ ?_
      · intro x hx; simp only [List.mem_singleton] at hx; subst hx; exact ⟨by show w3.heap.size < w4.heap.size; omega, rfl⟩
      · intro x hx; simp only [List.mem_singleton] at hx; subst hx; rfl
      · intro x hx y hy h; simp only [List.mem_singleton] at hx hy; subst hx hy; exact absurd rfl h
      · refine ⟨?o0, ?o1, ?o2, ?o3, trivial⟩
        case o0 =>
          intro f w2 hG hp hl
          have hE : Ext w4 w2 := hG
          have hS := hE.size
          change OpGoal _ _ _ f w2 Ext _
          exact og_load (P := Try.prog) _ _ w3.heap.size _ _ _ rfl rfl rfl (b5.ext hE) Try.underlying24 rfl (by kernel_rfl) rfl
        case o1 =>
          intro f w2 hG hp hl
          have hE : Ext w4 w2 := hG
          have hS := hE.size
          change OpGoal _ _ _ f w2 Ext _
          refine og_call (P := Try.prog) _ _ _ #[.int .i64 1] Try.func64 (by kernel_rfl) (by kernel_rfl) rfl rfl (by kernel_rfl) ?_
          refine (zof_calls 1 _ (by omega) (by omega)).mono ?_
          rintro e w' ⟨v', rfl, h1, h2⟩
          exact ⟨v', rfl, h2, h1.mono hS⟩
        case o2 =>
          intro f w2 hG hp hl
          have hE : Ext w4 w2 := hG
          have hS := hE.size
          have q42 : f 0 = .agg #[.bool (decide (sgn true (n / y) < 0)), .slice ad (sz W (sgn true (n / y)).natAbs) cap] := tellV hp 0 0 rfl rfl (fun h => by cases h)
          have q43 := tellV hp 1 1 rfl rfl (fun _ => hE)
          change OpGoal _ _ _ f w2 Ext _
          refine og_call (P := Try.prog) _ _ _ #[f 0, f 1] Try.func92 (by kernel_rfl) (by kernel_rfl) rfl rfl (by kernel_rfl) ?_
          rw [q42]
          refine (zsub_calls _ _ (sgn true (n / y)) 1 _ ((Hq0.isZ (by rw [LIM_eq]; omega)).ext hE) (q43.isZ (by rw [show szZ 1 = 1 from rfl, LIM_eq]; omega)) (by omega) (by rw [show szZ 1 = 1 from rfl]; omega)).mono ?_
          rintro e w' ⟨v', rfl, h1, h2⟩
          exact ⟨v', rfl, h2, h1.mono hS⟩
        case o3 =>
          intro f w2 hG hp hl
          have hE : Ext w4 w2 := hG
          have hS := hE.size
          have q44 := tellV hp 0 2 rfl rfl (fun _ => hE)
          intro hg0
          change OpGoal _ _ _ f w2 (Chg _) _
          obtain ⟨s', hv, hn⟩ := q44
          exact og_store (P := Try.prog) _ _ _ w3.heap.size _ _ _ (PP.frZ _ : PP _).p rfl rfl rfl hv (show Bx 24 w2 _ _ from hg0.trans b5) (by kernel_rfl) rfl (all2 rfl hn.oneCell) (fun w' h => ⟨s', rfl, hn.chg h (by omega)⟩)
      · intro f wz hG hp
        obtain ⟨cs0, hbx0, hz0⟩ : ∃ cs, Bx 24 wz w3.heap.size cs ∧ (PP.frZ (sgn true (n / y) - 1) : PP w4.heap.size).p (.agg cs) wz := endS hp 3 (by decide)
        clear hp
        have hz1 := hz0
        obtain ⟨s10, hv, hn10⟩ := hz0
        cases hv
        have O10 := hn10.oneCell
        have E' := E.stepS hG (by simp only [List.map_cons, List.map_nil, List.mem_singleton, forall_eq]; omega)
        have B1' := B1.chgS hG (by simp only [List.map_cons, List.map_nil, List.mem_singleton]; omega)
        have B2' := B2.chgS hG (by simp only [List.map_cons, List.map_nil, List.mem_singleton]; omega)
        have B3' := B3.chgS hG (by simp only [List.map_cons, List.map_nil, List.mem_singleton]; omega)
        have B4' := B4.chgS hG (by simp only [List.map_cons, List.map_nil, List.mem_singleton]; omega)
        have hsz5 := hG.2.2.2.1
        have Hq : FrZ (w.heap.size + 4) wz _ (sgn true (n / y) - 1) := hz1.mono (by omega)
        have Hsz : szZ (sgn true (n / y) - 1) + sz W y ≤ 17592186044090 := by
          have := szZ_add (sgn true (n / y)) (-1)
          rw [← Int.sub_eq_add_neg] at this
          rw [show szZ (-1) = 1 from rfl] at this
          omega
        clear E B1 B2 B3 B4
        have E := E'
        have B1 := B1'
        have B2 := B2'
        have B3 := B3'
        have B4 := B4'
        clear E' B1' B2' B3' B4'
        have B5 := hbx0
        have S := s1
        go_wp2_with fail
        refine wp_region_puts [⟨6, (w.heap.size + 2), 24, PP.val (.agg #[.bool (decide ((sgn true (n / y) - 1) < 0)), s10])⟩, ⟨7, (w.heap.size + 3), 24, PP.frZ (x - (sgn true (n / y) - 1) * (y : Int))⟩] [PP.val (.agg #[.bool (decide ((sgn true (n / y) - 1) < 0)), s10]), PP.val (.agg #[.bool true, s]), PP.val (.agg #[.bool (decide ((sgn true (n / y) - 1) < 0)), s10]), PP.val (.agg #[.bool false, t]), PP.frZ ((sgn true (n / y) - 1) * (y : Int)), PP.frZ (x - (sgn true (n / y) - 1) * (y : Int)), PP.any, PP.any, PP.val (.int .i64 0)] [] [6, 5, 4, 3, 2, 1, 0]
          (by kernel_rfl) (by kernel_rfl) (fun f => (by simp only [fillR, fillL, List.setIfInBounds_toArray, List.set_cons_succ, List.set_cons_zero, Nat.reduceAdd]; rfl)) ?_ ?_ ?_ ?_ ?_
        · intro x hx; simp only [List.mem_cons, List.not_mem_nil, or_false] at hx; rcases hx with rfl | rfl
          · exact ⟨by show (w.heap.size + 2) < wz.heap.size; omega, rfl⟩
          · exact ⟨by show (w.heap.size + 3) < wz.heap.size; omega, rfl⟩
        · intro x hx; simp only [List.mem_cons, List.not_mem_nil, or_false] at hx; rcases hx with rfl | rfl <;> rfl
        · intro x hx y hy h; simp only [List.mem_cons, List.not_mem_nil, or_false] at hx hy; rcases hx with rfl | rfl <;> rcases hy with rfl | rfl
          · exact absurd rfl h
          · show (w.heap.size + 2) ≠ (w.heap.size + 3); omega
          · show (w.heap.size + 3) ≠ (w.heap.size + 2); omega
          · exact absurd rfl h
        · refine ⟨?o0, ?o1, ?o2, ?o3, ?o4, ?o5, ?o6, ?o7, ?o8, trivial⟩
          case o0 =>
            intro f w2 hG hp hl
            have hE : Ext wz w2 := hG
            have hS := hE.size
            change OpGoal _ _ _ f w2 Ext _
            exact og_load (P := Try.prog) _ _ w3.heap.size _ _ _ rfl rfl rfl (B5.ext hE) Try.underlying24 rfl (by kernel_rfl) rfl
          case o1 =>
            intro f w2 hG hp hl
            have hE : Ext wz w2 := hG
            have hS := hE.size
            change OpGoal _ _ _ f w2 Ext _
            exact og_load (P := Try.prog) _ _ w.heap.size _ _ _ rfl rfl rfl (B1.ext hE) Try.underlying24 rfl (by kernel_rfl) rfl
          case o2 =>
            intro f w2 hG hp hl
            have hE : Ext wz w2 := hG
            have hS := hE.size
            change OpGoal _ _ _ f w2 Ext _
            exact og_load (P := Try.prog) _ _ w3.heap.size _ _ _ rfl rfl rfl (B5.ext hE) Try.underlying24 rfl (by kernel_rfl) rfl
          case o3 =>
            intro f w2 hG hp hl
            have hE : Ext wz w2 := hG
            have hS := hE.size
            change OpGoal _ _ _ f w2 Ext _
            exact og_load (P := Try.prog) _ _ (w.heap.size + 1) _ _ _ rfl rfl rfl (B2.ext hE) Try.underlying24 rfl (by kernel_rfl) rfl
          case o4 =>
            intro f w2 hG hp hl
            have hE : Ext wz w2 := hG
            have hS := hE.size
            have q47 : f 2 = .agg #[.bool (decide ((sgn true (n / y) - 1) < 0)), s10] := tellV hp 0 2 rfl rfl (fun h => by cases h)
            have q48 : f 3 = .agg #[.bool false, t] := tellV hp 1 3 rfl rfl (fun h => by cases h)
            change OpGoal _ _ _ f w2 Ext _
            refine og_call (P := Try.prog) _ _ _ #[f 2, f 3] Try.func75 (by kernel_rfl) (by kernel_rfl) rfl rfl (by kernel_rfl) ?_
            rw [q47, q48]
            refine (zmul_calls _ _ ((sgn true (n / y) - 1)) (y : Int) _ ((Hq.isZ (by rw [LIM_eq]; omega)).ext hE) (hY.ext (E.trans hE)) (by rw [hszy]; omega)).mono ?_
            rintro e w' ⟨v', rfl, h1, h2⟩
            exact ⟨v', rfl, h2, h1.mono hS⟩
          case o5 =>
            intro f w2 hG hp hl
            have hE : Ext wz w2 := hG
            have hS := hE.size
            have q46 : f 1 = .agg #[.bool true, s] := tellV hp 0 1 rfl rfl (fun h => by cases h)
            have q49 := tellV hp 1 4 rfl rfl (fun _ => hE)
            change OpGoal _ _ _ f w2 Ext _
            refine og_call (P := Try.prog) _ _ _ #[f 1, f 4] Try.func92 (by kernel_rfl) (by kernel_rfl) rfl rfl (by kernel_rfl) ?_
            rw [q46]
            refine (zsub_calls _ _ x ((sgn true (n / y) - 1) * (y : Int)) _ (hV.out.ext (E.trans hE)) (q49.isZ (by have := szZ_mul ((sgn true (n / y) - 1)) (y : Int); rw [LIM_eq]; omega)) (by omega) (by have := szZ_mul ((sgn true (n / y) - 1)) (y : Int); omega)).mono ?_
            rintro e w' ⟨v', rfl, h1, h2⟩
            exact ⟨v', rfl, h2, h1.mono hS⟩
          case o6 =>
            intro f w2 hG hp hl
            have hE : Ext wz w2 := hG
            have hS := hE.size
            have q45 : f 0 = .agg #[.bool (decide ((sgn true (n / y) - 1) < 0)), s10] := tellV hp 0 0 rfl rfl (fun h => by cases h)
            intro hg0
            change OpGoal _ _ _ f w2 (Chg _) _
            exact og_store (P := Try.prog) _ _ _ (w.heap.size + 2) _ _ _ (PP.val _ : PP _).p rfl rfl rfl q45 (show Bx 24 w2 _ _ from hg0.trans B3) (by kernel_rfl) rfl (all2 rfl O10) (fun w' h => rfl)
          case o7 =>
            intro f w2 hG hp hl
            have hS : wz.heap.size ≤ w2.heap.size := hG.2.2.2.1
            have q50 := tellV hp 0 5 rfl rfl (fun _ => by contradiction)
            intro hg0
            change OpGoal _ _ _ f w2 (Chg _) _
            obtain ⟨s', hv, hn⟩ := q50
            exact og_store (P := Try.prog) _ _ _ (w.heap.size + 3) _ _ _ (PP.frZ _ : PP _).p rfl rfl rfl hv (show Bx 24 w2 _ _ from hg0.trans B4) (by kernel_rfl) rfl (all2 rfl hn.oneCell) (fun w' h => ⟨s', rfl, hn.chg h (by omega)⟩)
          case o8 =>
            intro f w2 hG hp hl
            have hS : wz.heap.size ≤ w2.heap.size := hG.2.2.2.1
            simp only [OpGoal]
            go_simp
            exact ⟨_, rfl, Ext.refl _, rfl⟩
        · intro f w2 hG hp
          obtain ⟨cs0, hbx0, hz0⟩ : ∃ cs, Bx 24 w2 (w.heap.size + 2) cs ∧ (PP.val (.agg #[.bool (decide ((sgn true (n / y) - 1) < 0)), s10]) : PP wz.heap.size).p (.agg cs) w2 := endS hp 6 (by decide)
          obtain ⟨cs1, hbx1, hz1⟩ : ∃ cs, Bx 24 w2 (w.heap.size + 3) cs ∧ (PP.frZ (x - (sgn true (n / y) - 1) * (y : Int)) : PP wz.heap.size).p (.agg cs) w2 := endS hp 7 (by decide)
          have q6 : f 8 = .int .i64 0 := endV hp 8 (by decide) rfl (fun h => by cases h)
          clear hp
          have hz2 := hz1.mono (show w.heap.size ≤ _ by omega)
          obtain ⟨s', hv, hn⟩ := hz1
          cases hv
          cases hz0
          go_wp2
          have hm : x % (y : Int) = x - (sgn true (n / y) - 1) * (y : Int) := by rw [Int.emod_def, hx0, Int.mul_comm]
          refine ret_box3 4 5 6 24 24 (w.heap.size + 2) (w.heap.size + 3) 24 24 _ _ _ _ _ (by kernel_rfl) rfl rfl q6 hbx0 hbx1 Try.underlying24 rfl (by kernel_rfl) Try.underlying24 rfl (by kernel_rfl) rfl ?_
          refine ⟨_, _, rfl, ?_, ?_, E.stepS hG (by simp)⟩
          · rw [hx0]; exact (Hq.chgS hG (by simp)).mono (by omega)
          · rw [hm]; exact hz2
end Go.Proofs.Ytnefipinicfegaa
