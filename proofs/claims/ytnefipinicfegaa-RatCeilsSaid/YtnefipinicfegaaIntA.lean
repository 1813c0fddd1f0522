/-
  Whole numbers: what a value tells, and zint's functions, walked.
-/
import Derived.Test.YtnefipinicfegaaOg
import Derived.Test.YtnefipinicfegaaDivJ
namespace Go.Proofs.Ytnefipinicfegaa
open Go.RowKit
set_option linter.unusedVariables false
set_option linter.unusedSimpArgs false

/-- The number of a sign and a distance from 0. -/
def sgn (b : Bool) (n : Nat) : Int := if b then -(n : Int) else n
/-- v tells the whole number z, in whatever form. -/
def IsZ (w : World) (v : Value) (z : Int) : Prop := ∃ b s n, v = .agg #[.bool b, s] ∧ IsN .u64 W w s n ∧ z = sgn b n
/-- .. in the one form, in memory of the call's own. -/
def FrZ (B0 : Nat) (w : World) (v : Value) (z : Int) : Prop := ∃ s, v = .agg #[.bool (decide (z < 0)), s] ∧ FrN 79 .u64 W B0 w s z.natAbs
/-- How many words a whole number has. -/
def szZ (z : Int) : Nat := sz W z.natAbs

set_option maxRecDepth 100000 in
theorem sz_mul (n m : Nat) : sz W (n * m) ≤ sz W n + sz W m := dg_len_mul W_gt n m
set_option maxRecDepth 100000 in
theorem sz_add (n m : Nat) : sz W (n + m) ≤ max (sz W n) (sz W m) + 1 := dg_len_add W_gt n m
set_option maxRecDepth 100000 in
theorem sz_mono {n m : Nat} (h : n ≤ m) : sz W n ≤ sz W m := dg_len_mono W_gt h
set_option maxRecDepth 100000 in
theorem sgn_mul (b c : Bool) (n m : Nat) : sgn (b != c) (n * m) = sgn b n * sgn c m := by
  cases b <;> cases c <;> simp [sgn, Int.neg_mul, Int.mul_neg]
set_option maxRecDepth 100000 in
theorem sgn_not (b : Bool) (n : Nat) : sgn (!b) n = -sgn b n := by cases b <;> simp [sgn]
set_option maxRecDepth 100000 in
theorem sgn_sign (b : Bool) (n : Nat) : (sgn b n).sign = if n = 0 then 0 else if b then -1 else 1 := by
  cases b <;> by_cases h : n = 0
  · simp [sgn, h]
  · simp only [sgn, h, if_false, Bool.false_eq_true]; exact Int.sign_eq_one_of_pos (by omega)
  · simp [sgn, h]
  · simp only [sgn, h, if_false, if_true]; exact Int.sign_eq_neg_one_of_neg (by omega)
set_option maxRecDepth 100000 in
theorem sgn_natAbs (b : Bool) (n : Nat) : (sgn b n).natAbs = n := by unfold sgn; cases b <;> simp
set_option maxRecDepth 100000 in
theorem sgn_self (z : Int) : sgn (decide (z < 0)) z.natAbs = z := by unfold sgn; split <;> simp_all <;> omega
set_option maxRecDepth 100000 in
theorem sgn_lt (b : Bool) (n : Nat) : sgn b n < 0 ↔ b = true ∧ 0 < n := by unfold sgn; cases b <;> simp <;> omega
set_option maxRecDepth 100000 in
theorem IsZ.ext {w w' : World} {v : Value} {z : Int} (h : IsZ w v z) (he : Ext w w') : IsZ w' v z := by
  obtain ⟨b, s, n, h1, h2, h3⟩ := h
  exact ⟨b, s, n, h1, h2.ext he, h3⟩
set_option maxRecDepth 100000 in
theorem FrZ.ext {B0 : Nat} {w w' : World} {v : Value} {z : Int} (h : FrZ B0 w v z) (he : Ext w w') : FrZ B0 w' v z := by
  obtain ⟨s, h1, h2⟩ := h
  exact ⟨s, h1, h2.ext he⟩
set_option maxRecDepth 100000 in
theorem FrZ.chg {B0 g : Nat} {w w' : World} {v : Value} {z : Int} (h : FrZ B0 w v z) (he : Chg g w w') (hg : g < B0) : FrZ B0 w' v z := by
  obtain ⟨s, h1, h2⟩ := h
  exact ⟨s, h1, h2.chg he hg⟩
set_option maxRecDepth 100000 in
theorem FrZ.mono {B0 B1 : Nat} {w : World} {v : Value} {z : Int} (h : FrZ B0 w v z) (hB : B1 ≤ B0) : FrZ B1 w v z := by
  obtain ⟨s, h1, h2⟩ := h
  exact ⟨s, h1, h2.mono hB⟩
set_option maxRecDepth 100000 in
theorem FrZ.isZ {B0 : Nat} {w : World} {v : Value} {z : Int} (h : FrZ B0 w v z) (hs : szZ z ≤ LIM .u64) : IsZ w v z := by
  obtain ⟨s, h1, h2⟩ := h
  exact ⟨_, s, _, h1, h2.isC.isN W_gt hs, (sgn_self z).symm⟩
set_option maxRecDepth 100000 in
theorem IsZ.len {w : World} {v : Value} {z : Int} (h : IsZ w v z) : szZ z ≤ LIM .u64 := by
  obtain ⟨b, s, n, h1, h2, rfl⟩ := h
  unfold szZ
  rw [sgn_natAbs]
  exact h2.len W_gt
set_option maxRecDepth 100000 in
theorem FrN.slice {e : TypeId} {k : IntKind} {B B0 n : Nat} {w : World} {v : Value} (h : FrN e k B B0 w v n) : ∃ ad cap, v = .slice ad (sz B n) cap := by
  obtain ⟨ad, cap, rfl, _⟩ := h
  exact ⟨ad, cap, rfl⟩
set_option maxRecDepth 100000 in
theorem IsN.oneCell {k : IntKind} {B n : Nat} {w : World} {v : Value} (h : IsN k B w v n) : v.oneCell' = true := by
  obtain ⟨xs, ⟨ad, cap, rfl, _⟩, _⟩ := h
  rfl
set_option maxRecDepth 100000 in
theorem FrN.oneCell {e : TypeId} {k : IntKind} {B B0 n : Nat} {w : World} {v : Value} (h : FrN e k B B0 w v n) : v.oneCell' = true := by
  obtain ⟨ad, cap, rfl, _⟩ := h
  rfl
def PP.frZ {S : Nat} (z : Int) : PP S := ⟨false, fun u w => FrZ S w u z, fun _ _ _ h hp => hp.ext h, fun _ _ hg _ _ _ h hp => hp.chg h hg⟩
def PP.isZ {S : Nat} (z : Int) : PP S := ⟨true, fun u w => IsZ w u z, fun _ _ _ h hp => hp.ext h, fun h => by cases h⟩

set_option maxRecDepth 100000 in
theorem make_calls (b : Bool) (s : Value) (n : Nat) (w : World) (hs : IsN .u64 W w s n) :
    Calls Try.prog 57 #[.bool b, s] w fun e w' => ∃ v', e = .returned v' ∧ FrZ w.heap.size w' v' (sgn b n) ∧ Ext w w' := by
  go_enter Try.func57, Try.ntmps57
  go_wp2_with fail
  obtain ⟨w1, hw1, e1, b1, s1⟩ := alloc1 w #[.bool false, .slice none 0 0] 24
  rw [← hw1]
  refine (trim_calls s n _ (hs.ext e1)).mono ?_
  rintro e w2 ⟨va, rfl, ha, hext⟩
  have hb := b1.ext hext
  have hn0 := @sz_zero n
  have Ha := Lib.hid ha
  obtain ⟨ad, cap, rfl, hl, hc, ho⟩ := ha
  have hc0 := hb.cell 0
  have hc1 := hb.cell 1
  have hf0 := hb.free 0
  have hf1 := hb.free 1
  go_wp2_with fail
  all_goals
    refine ret_box 4 24 w.heap.size 24 _ _ (by kernel_rfl) rfl ((hb.set 0 _).set 1 _) Try.underlying24 rfl (by kernel_rfl) rfl ?_
    refine ⟨_, rfl, ⟨.slice ad (dg W n).length cap, ?_, ?_⟩, (e1.trans hext).step (Chg.trans (Chg.setCell _ w.heap.size 0 _) (Chg.setCell _ w.heap.size 1 _)) (Nat.le_refl _)⟩
    rotate_left
    · rw [sgn_natAbs]
      exact (Ha.out.chg (Chg.trans (Chg.setCell _ w.heap.size 0 _) (Chg.setCell _ w.heap.size 1 _)) (by omega)).mono (by omega)
  all_goals
    have hd : (0 < (dg W n).length) ↔ 0 < n := by unfold sz at hn0; omega
    simp_all [sgn_lt]

set_option maxRecDepth 100000 in
theorem zsign_calls (v : Value) (z : Int) (w : World) (hv : IsZ w v z) :
    Calls Try.prog 55 #[v] w fun e w' => e = .returned (.int .i64 z.sign) ∧ Ext w w' := by
  obtain ⟨b, s, n, rfl, hs, rfl⟩ := hv
  go_enter Try.func55, Try.ntmps55
  go_wp2_with fail
  obtain ⟨w1, hw1, e1, b1, s1⟩ := alloc1 w #[.bool b, s] 24
  rw [← hw1]
  refine (bits_calls s n _ (hs.ext e1)).mono ?_
  rintro e w2 ⟨rfl, hext⟩
  have hb := b1.ext hext
  have hc0 := hb.cell 0
  have hbits := @bitsN_zero n
  go_wp2
  all_goals
    go_ret
    refine ⟨?_, e1.trans hext⟩
    rw [sgn_sign]
    simp_all

set_option maxRecDepth 100000 in
theorem zneg_calls (v : Value) (z : Int) (w : World) (hv : IsZ w v z) :
    Calls Try.prog 68 #[v] w fun e w' => ∃ v', e = .returned v' ∧ FrZ w.heap.size w' v' (-z) ∧ Ext w w' := by
  obtain ⟨b, s, n, rfl, hs, rfl⟩ := hv
  go_enter Try.func68, Try.ntmps68
  go_wp2_with fail
  obtain ⟨w1, hw1, e1, b1, b2, s1⟩ := alloc2 w #[.bool b, s] #[.bool false, .slice none 0 0] 24 24
  rw [← hw1]
  refine (make_calls _ s n _ (hs.ext e1)).mono ?_
  rintro e w2 ⟨v', rfl, hz, hext⟩
  obtain ⟨s', rfl, hn⟩ := hz
  obtain ⟨ad, cap, rfl⟩ := hn.slice
  have Hn := Lib.hid hn
  clear hn
  have hb := b2.ext hext
  have hc0 := hb.cell 0
  have hc1 := hb.cell 1
  have hf0 := hb.free 0
  have hf1 := hb.free 1
  go_wp2
  refine ret_box 2 24 (w.heap.size + 1) 24 _ _ (by kernel_rfl) rfl ((hb.set 0 _).set 1 _) Try.underlying24 rfl (by kernel_rfl) rfl ?_
  rw [← sgn_not]
  exact ⟨_, rfl, ⟨_, rfl, (Hn.out.chg (Chg.trans (Chg.setCell _ (w.heap.size + 1) 0 _) (Chg.setCell _ (w.heap.size + 1) 1 _)) (by omega)).mono (by omega)⟩, (e1.trans hext).step (Chg.trans (Chg.setCell _ (w.heap.size + 1) 0 _) (Chg.setCell _ (w.heap.size + 1) 1 _)) (by omega)⟩


set_option maxRecDepth 100000 in
theorem zmul_calls (v u : Value) (x y : Int) (w : World) (hv : IsZ w v x) (hu : IsZ w u y) (hsz : szZ x + szZ y ≤ 17592186044096) :
    Calls Try.prog 75 #[v, u] w fun e w' => ∃ v', e = .returned v' ∧ FrZ w.heap.size w' v' (x * y) ∧ Ext w w' := by
  obtain ⟨b, s, n, rfl, hs, rfl⟩ := hv
  obtain ⟨c, t, m, rfl, ht, rfl⟩ := hu
  unfold szZ at hsz
  rw [sgn_natAbs, sgn_natAbs] at hsz
  go_enter Try.func75, Try.ntmps75
  go_wp2_with fail
  obtain ⟨w1, hw1, e1, b1, b2, b3, s1⟩ := alloc3 w #[.bool b, s] #[.bool c, t] #[.bool false, .slice none 0 0] 24 24 24
  rw [← hw1]
  clear hw1
  have hn := hs.len W_gt
  refine wp_region_puts [⟨11, (w.heap.size + 2), 24, PP.frZ (sgn (b != c) (n * m))⟩] [PP.val (.pointer (some ⟨w.heap.size, 0, none⟩)), PP.val (.bool b), PP.val (.pointer (some ⟨(w.heap.size + 1), 0, none⟩)), PP.val (.bool c), PP.val (.bool (b != c)), PP.val (.pointer (some ⟨w.heap.size, 1, none⟩)), PP.val (s), PP.val (.pointer (some ⟨(w.heap.size + 1), 1, none⟩)), PP.val (t), PP.frN 79 .u64 W (n * m), PP.frZ (sgn (b != c) (n * m)), PP.any] [] [11, 10, 9, 8, 7, 6, 5, 4, 3, 2, 1, 0]
    (by kernel_rfl) (by kernel_rfl) (fun f => (by simp only [fillR, fillL, List.setIfInBounds_toArray, List.set_cons_succ, List.set_cons_zero, Nat.reduceAdd]; rfl)) ?_ ?_ ?_ ?_ ?_
  · intro x hx; simp only [List.mem_singleton] at hx; subst hx; exact ⟨by show (w.heap.size + 2) < w1.heap.size; omega, rfl⟩
  · intro x hx; simp only [List.mem_singleton] at hx; subst hx; rfl
  · intro x hx y hy h; simp only [List.mem_singleton] at hx hy; subst hx hy; exact absurd rfl h
  · refine ⟨?o0, ?o1, ?o2, ?o3, ?o4, ?o5, ?o6, ?o7, ?o8, ?o9, ?o10, ?o11, trivial⟩
    case o0 =>
      intro f w2 hG hp hl
      have hE : Ext w1 w2 := hG
      have hS := hE.size
      simp only [OpGoal]
      go_simp
      exact ⟨_, rfl, Ext.refl _, rfl⟩
    case o1 =>
      intro f w2 hG hp hl
      have hE : Ext w1 w2 := hG
      have hS := hE.size
      have q5 : f 0 = .pointer (some ⟨w.heap.size, 0, none⟩) := tellV hp 0 0 rfl rfl (fun h => by cases h)
      have hcell := (b1.ext hE).cell 0
      simp only [OpGoal]
      go_simp
      exact ⟨_, rfl, Ext.refl _, rfl⟩
    case o2 =>
      intro f w2 hG hp hl
      have hE : Ext w1 w2 := hG
      have hS := hE.size
      simp only [OpGoal]
      go_simp
      exact ⟨_, rfl, Ext.refl _, rfl⟩
    case o3 =>
      intro f w2 hG hp hl
      have hE : Ext w1 w2 := hG
      have hS := hE.size
      have q7 : f 2 = .pointer (some ⟨(w.heap.size + 1), 0, none⟩) := tellV hp 0 2 rfl rfl (fun h => by cases h)
      have hcell := (b2.ext hE).cell 0
      simp only [OpGoal]
      go_simp
      exact ⟨_, rfl, Ext.refl _, rfl⟩
    case o4 =>
      intro f w2 hG hp hl
      have hE : Ext w1 w2 := hG
      have hS := hE.size
      have q6 : f 1 = .bool b := tellV hp 0 1 rfl rfl (fun h => by cases h)
      have q8 : f 3 = .bool c := tellV hp 1 3 rfl rfl (fun h => by cases h)
      simp only [OpGoal]
      go_simp
      exact ⟨_, rfl, Ext.refl _, rfl⟩
    case o5 =>
      intro f w2 hG hp hl
      have hE : Ext w1 w2 := hG
      have hS := hE.size
      simp only [OpGoal]
      go_simp
      exact ⟨_, rfl, Ext.refl _, rfl⟩
    case o6 =>
      intro f w2 hG hp hl
      have hE : Ext w1 w2 := hG
      have hS := hE.size
      have q10 : f 5 = .pointer (some ⟨w.heap.size, 1, none⟩) := tellV hp 0 5 rfl rfl (fun h => by cases h)
      have hcell := (b1.ext hE).cell 1
      simp only [OpGoal]
      go_simp
      exact ⟨_, rfl, Ext.refl _, rfl⟩
    case o7 =>
      intro f w2 hG hp hl
      have hE : Ext w1 w2 := hG
      have hS := hE.size
      simp only [OpGoal]
      go_simp
      exact ⟨_, rfl, Ext.refl _, rfl⟩
    case o8 =>
      intro f w2 hG hp hl
      have hE : Ext w1 w2 := hG
      have hS := hE.size
      have q12 : f 7 = .pointer (some ⟨(w.heap.size + 1), 1, none⟩) := tellV hp 0 7 rfl rfl (fun h => by cases h)
      have hcell := (b2.ext hE).cell 1
      simp only [OpGoal]
      go_simp
      exact ⟨_, rfl, Ext.refl _, rfl⟩
    case o9 =>
      intro f w2 hG hp hl
      have hE : Ext w1 w2 := hG
      have hS := hE.size
      have q11 : f 6 = s := tellV hp 0 6 rfl rfl (fun h => by cases h)
      have q13 : f 8 = t := tellV hp 1 8 rfl rfl (fun h => by cases h)
      change OpGoal _ _ _ f w2 Ext _
      refine og_call (P := Try.prog) _ _ _ #[f 6, f 8] Try.func76 (by kernel_rfl) (by kernel_rfl) rfl rfl (by kernel_rfl) ?_
      rw [q11, q13]
      refine (mul_calls n m _ _ _ hsz (hs.ext (e1.trans hE)) (ht.ext (e1.trans hE))).mono ?_
      rintro e w' ⟨v', rfl, h1, h2⟩
      exact ⟨v', rfl, h2, h1.mono hS⟩
    case o10 =>
      intro f w2 hG hp hl
      have hE : Ext w1 w2 := hG
      have hS := hE.size
      have q9 : f 4 = .bool (b != c) := tellV hp 0 4 rfl rfl (fun h => by cases h)
      have q14 := tellV hp 1 9 rfl rfl (fun _ => hE)
      change OpGoal _ _ _ f w2 Ext _
      refine og_call (P := Try.prog) _ _ _ #[f 4, f 9] Try.func57 (by kernel_rfl) (by kernel_rfl) rfl rfl (by kernel_rfl) ?_
      rw [q9]
      refine (make_calls _ _ _ _ (q14.isC.isN W_gt (Nat.le_trans (sz_mul n m) (by rw [LIM_eq]; omega)))).mono ?_
      rintro e w' ⟨v', rfl, h1, h2⟩
      exact ⟨v', rfl, h2, h1.mono hS⟩
    case o11 =>
      intro f w2 hG hp hl
      have hE : Ext w1 w2 := hG
      have hS := hE.size
      have q15 := tellV hp 0 10 rfl rfl (fun _ => hE)
      intro hg0
      change OpGoal _ _ _ f w2 (Chg _) _
      obtain ⟨s', hv, hn⟩ := q15
      exact og_store (P := Try.prog) _ _ _ (w.heap.size + 2) _ _ _ (PP.frZ _ : PP _).p rfl rfl rfl hv (show Bx 24 w2 _ _ from hg0.trans b3) (by kernel_rfl) rfl (all2 rfl hn.oneCell) (fun w' h => ⟨s', rfl, hn.chg h (by omega)⟩)
  · intro f w2 hG hp
    obtain ⟨cs0, hbx0, hz0⟩ : ∃ cs, Bx 24 w2 (w.heap.size + 2) cs ∧ (PP.frZ (sgn (b != c) (n * m)) : PP w1.heap.size).p (.agg cs) w2 := endS hp 11 (by decide)
    clear hp
    have hz1 := hz0.mono (show w.heap.size ≤ _ by omega)
    obtain ⟨s', hv, hn⟩ := hz0
    cases hv
    go_wp2
    refine ret_box 4 24 (w.heap.size + 2) 24 _ _ (by kernel_rfl) rfl hbx0 Try.underlying24 rfl (by kernel_rfl) rfl ?_
    rw [← sgn_mul]
    exact ⟨_, rfl, hz1, e1.stepS hG (by simp)⟩
end Go.Proofs.Ytnefipinicfegaa
