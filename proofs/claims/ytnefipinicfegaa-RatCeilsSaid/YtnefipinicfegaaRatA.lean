/-
  Fractions: what a value tells, and rat's functions, walked (I).
-/
import Derived.Test.YtnefipinicfegaaIntC
namespace Go.Proofs.Ytnefipinicfegaa
open Go.RowKit
set_option linter.unusedVariables false
set_option linter.unusedSimpArgs false

/-- v tells the fraction n / d, in whatever form; d is not 0 (a denominator of 0 is read as 1). -/
def IsQ (w : World) (v : Value) (n : Int) (d : Nat) : Prop := ∃ b s t m d0, v = .agg #[.bool b, s, t] ∧ IsN .u64 W w s m ∧ n = sgn b m ∧ IsN .u64 W w t d0 ∧ d = if d0 = 0 then 1 else d0
/-- v tells the fraction q, in whatever form, in at most k words each. -/
def IsR (w : World) (v : Value) (q : Rat) (k : Nat) : Prop := ∃ n d, IsQ w v n d ∧ q = mkRat n d ∧ szZ n ≤ k ∧ sz W d ≤ k
/-- .. in the one form, in memory of the call's own. -/
def FrQ (B0 : Nat) (w : World) (v : Value) (q : Rat) : Prop := ∃ s t, v = .agg #[.bool (decide (q.num < 0)), s, t] ∧ FrN 79 .u64 W B0 w s q.num.natAbs ∧ FrN 79 .u64 W B0 w t q.den
/-- How many words a fraction has at most, above and below. -/
def szQ (q : Rat) : Nat := max (szZ q.num) (sz W q.den)

set_option maxRecDepth 100000 in
theorem IsQ.ext {w w' : World} {v : Value} {n : Int} {d : Nat} (h : IsQ w v n d) (he : Ext w w') : IsQ w' v n d := by
  obtain ⟨b, s, t, m, d0, h1, h2, h3, h4, h5⟩ := h
  exact ⟨b, s, t, m, d0, h1, h2.ext he, h3, h4.ext he, h5⟩
set_option maxRecDepth 100000 in
theorem IsQ.pos {w : World} {v : Value} {n : Int} {d : Nat} (h : IsQ w v n d) : 0 < d := by
  obtain ⟨b, s, t, m, d0, h1, h2, h3, h4, h5⟩ := h
  rw [h5]; split <;> omega
set_option maxRecDepth 100000 in
theorem IsR.ext {w w' : World} {v : Value} {q : Rat} {k : Nat} (h : IsR w v q k) (he : Ext w w') : IsR w' v q k := by
  obtain ⟨n, d, h1, h2⟩ := h
  exact ⟨n, d, h1.ext he, h2⟩
set_option maxRecDepth 100000 in
theorem IsR.mono {w : World} {v : Value} {q : Rat} {k l : Nat} (h : IsR w v q k) (hk : k ≤ l) : IsR w v q l := by
  obtain ⟨n, d, h1, h2, h3, h4⟩ := h
  exact ⟨n, d, h1, h2, by omega, by omega⟩
set_option maxRecDepth 100000 in
theorem FrQ.ext {B0 : Nat} {w w' : World} {v : Value} {q : Rat} (h : FrQ B0 w v q) (he : Ext w w') : FrQ B0 w' v q := by
  obtain ⟨s, t, h1, h2, h3⟩ := h
  exact ⟨s, t, h1, h2.ext he, h3.ext he⟩
set_option maxRecDepth 100000 in
theorem FrQ.chg {B0 g : Nat} {w w' : World} {v : Value} {q : Rat} (h : FrQ B0 w v q) (he : Chg g w w') (hg : g < B0) : FrQ B0 w' v q := by
  obtain ⟨s, t, h1, h2, h3⟩ := h
  exact ⟨s, t, h1, h2.chg he hg, h3.chg he hg⟩
set_option maxRecDepth 100000 in
theorem FrQ.chgS {B0 : Nat} {w w' : World} {v : Value} {q : Rat} {bs : List Nat} (h : FrQ B0 w v q) (he : ChgS bs w w') (hb : ∀ g ∈ bs, g < B0) : FrQ B0 w' v q := by
  obtain ⟨s, t, h1, h2, h3⟩ := h
  exact ⟨s, t, h1, h2.chgS he hb, h3.chgS he hb⟩
set_option maxRecDepth 100000 in
theorem FrQ.mono {B0 B1 : Nat} {w : World} {v : Value} {q : Rat} (h : FrQ B0 w v q) (hB : B1 ≤ B0) : FrQ B1 w v q := by
  obtain ⟨s, t, h1, h2, h3⟩ := h
  exact ⟨s, t, h1, h2.mono hB, h3.mono hB⟩
set_option maxRecDepth 100000 in
theorem FrQ.isQ {B0 : Nat} {w : World} {v : Value} {q : Rat} (h : FrQ B0 w v q) (hs : szQ q ≤ LIM .u64) : IsQ w v q.num q.den := by
  obtain ⟨s, t, h1, h2, h3⟩ := h
  have hm := Nat.max_le.1 hs
  exact ⟨_, s, t, _, q.den, h1, h2.isC.isN W_gt hm.1, (sgn_self _).symm, h3.isC.isN W_gt hm.2, by rw [if_neg q.den_nz]⟩
set_option maxRecDepth 100000 in
theorem FrQ.isR {B0 : Nat} {w : World} {v : Value} {q : Rat} (h : FrQ B0 w v q) {k : Nat} (hk : szQ q ≤ k) (hs : k ≤ LIM .u64) : IsR w v q k := by
  have hm := Nat.max_le.1 hk
  exact ⟨q.num, q.den, h.isQ (Nat.le_trans hk hs), (Rat.mkRat_self q).symm, hm.1, hm.2⟩
def PP.frQ {S : Nat} (q : Rat) : PP S := ⟨false, fun u w => FrQ S w u q, fun _ _ _ h hp => hp.ext h, fun _ _ hg _ _ _ h hp => hp.chg h hg⟩

def PP.frQS {S : Nat} (q : Rat) (k : Nat) : PP S := ⟨false, fun u w => FrQ S w u q ∧ szQ q ≤ k, fun _ _ _ h hp => ⟨hp.1.ext h, hp.2⟩, fun _ _ hg _ _ _ h hp => ⟨hp.1.chg h hg, hp.2⟩⟩

/-! The fractions themselves. -/
set_option maxRecDepth 100000 in
theorem szQ_mkRat (n : Int) (d : Nat) (hd : 0 < d) : szZ (mkRat n d).num ≤ szZ n ∧ sz W (mkRat n d).den ≤ sz W d := by
  rw [Rat.num_mkRat, Rat.den_mkRat, if_neg (by omega), if_neg (by omega)]
  constructor
  · unfold szZ
    refine sz_mono ?_
    exact Int.natAbs_ediv_le_natAbs _ _
  · exact sz_mono (Nat.div_le_self _ _)
set_option maxRecDepth 100000 in
theorem IsR.sz {w : World} {v : Value} {q : Rat} {k : Nat} (h : IsR w v q k) : szQ q ≤ k := by
  obtain ⟨n, d, h1, rfl, h3, h4⟩ := h
  have := szQ_mkRat n d h1.pos
  exact Nat.max_le.2 ⟨by omega, by omega⟩
set_option maxRecDepth 100000 in
theorem sgn_gcd (b : Bool) (n d : Nat) (hd : 0 < d) : (mkRat (sgn b n) d).num = sgn b (n / Nat.gcd n d) ∧ (mkRat (sgn b n) d).den = d / Nat.gcd n d := by
  rw [Rat.num_mkRat, Rat.den_mkRat, if_neg (by omega), if_neg (by omega), sgn_natAbs, Nat.gcd_comm d n]
  refine ⟨?_, rfl⟩
  cases b
  · simp [sgn]
  · simp only [sgn, if_true]
    rw [Int.neg_ediv_of_dvd (Int.natCast_dvd_natCast.2 (Nat.gcd_dvd_left n d))]
    simp
set_option maxRecDepth 100000 in
theorem mkRat_sign (n : Int) (d : Nat) (hd : 0 < d) : (mkRat n d).num.sign = n.sign := by
  have h := sgn_gcd (decide (n < 0)) n.natAbs d hd
  rw [sgn_self] at h
  rw [h.1]
  have h2 : n = sgn (decide (n < 0)) n.natAbs := (sgn_self n).symm
  rw [h2, sgn_sign, sgn_sign, sgn_natAbs]
  have hg : 0 < Nat.gcd n.natAbs d := Nat.gcd_pos_of_pos_right _ hd
  have : n.natAbs / Nat.gcd n.natAbs d = 0 ↔ n.natAbs = 0 := by
    rw [Nat.div_eq_zero_iff]
    constructor
    · rintro (h | h)
      · omega
      · by_cases h0 : n.natAbs = 0
        · exact h0
        · have := Nat.le_of_dvd (by omega) (Nat.gcd_dvd_left n.natAbs d); omega
    · intro h; exact .inr (by omega)
  simp [this, sgn_lt, sgn_self]
set_option maxRecDepth 100000 in
theorem mkRat_floor (n : Int) (d : Nat) (hd : 0 < d) : (mkRat n d).floor = n / (d : Int) := by
  rw [Rat.floor_def, Rat.num_mkRat, Rat.den_mkRat, if_neg (by omega), if_neg (by omega)]
  have hg : 0 < Nat.gcd d n.natAbs := Nat.gcd_pos_of_pos_left _ hd
  have h1 : (Nat.gcd d n.natAbs : Int) ∣ n := Int.ofNat_dvd_left.2 (Nat.gcd_dvd_right _ _)
  have h2 : Nat.gcd d n.natAbs ∣ d := Nat.gcd_dvd_left _ _
  generalize Nat.gcd d n.natAbs = g at *
  obtain ⟨n', rfl⟩ := h1
  obtain ⟨d', rfl⟩ := h2
  rw [Int.mul_ediv_cancel_left _ (by omega), Nat.mul_div_cancel_left _ hg, Int.natCast_mul, Int.mul_ediv_mul_of_pos _ _ (by omega)]

set_option maxRecDepth 100000 in
theorem own_new (w : World) (k : IntKind) (c : Nat) (e : TypeId) : FrL e k w.heap.size (w.alloc (.cells #[.int k (c : Int)] e)) (.slice (some ⟨w.heap.size, 0, none⟩) 1 1) [c] :=
  ⟨_, 1, rfl, Nat.le_refl _, by omega, .inr ⟨w.heap.size, _, rfl, Nat.le_refl _, heap_alloc_new w _, rfl, rfl⟩⟩
set_option maxRecDepth 100000 in
theorem one_calls (w : World) : Calls Try.prog 60 #[] w fun e w' => ∃ v', e = .returned v' ∧ FrN 79 .u64 W w.heap.size w' v' 1 ∧ Ext w w' := by
  go_enter Try.func60, Try.ntmps60
  go_wp2
  go_ret
  refine ⟨_, rfl, ?_, (Ext.refl w).alloc _⟩
  unfold FrN
  rw [dg_small W_gt (by omega) (by rw [W_eq]; omega)]
  exact own_new w .u64 1 _

set_option maxRecDepth 100000 in
theorem under_calls (v : Value) (n : Int) (d : Nat) (w : World) (hv : IsQ w v n d) :
    Calls Try.prog 67 #[v] w fun e w' => ∃ v', e = .returned v' ∧ IsN .u64 W w' v' d ∧ Ext w w' := by
  obtain ⟨b, s, t, m, d0, rfl, hs, hn, ht, hd⟩ := hv
  go_enter Try.func67, Try.ntmps67
  go_wp2_with fail
  obtain ⟨w1, hw1, e1, b1, s1⟩ := alloc1 w #[.bool b, s, t] 28
  rw [← hw1]
  refine (bits_calls t d0 _ (ht.ext e1)).mono ?_
  rintro e w2 ⟨rfl, hext⟩
  have hb := b1.ext hext
  have hc2 := hb.cell 2
  have hbits := @bitsN_zero d0
  by_cases h0 : d0 = 0
  · have hbz : bitsN d0 = 0 := hbits.2 h0
    go_wp2_with fail
    refine (one_calls _).mono ?_
    rintro e w3 ⟨v', rfl, h1, hext2⟩
    go_wp2
    go_ret
    refine ⟨_, rfl, ?_, (e1.trans hext).trans hext2⟩
    rw [hd, if_pos h0]
    exact h1.isC.isN W_gt (by rw [LIM_eq, show sz W 1 = 1 from rfl]; omega)
  · have hbz : ¬ bitsN d0 = 0 := fun h => h0 (hbits.1 h)
    go_wp2_with fail
    go_ret
    refine ⟨_, rfl, ?_, e1.trans hext⟩
    rw [hd, if_neg h0]
    exact ht.ext (e1.trans hext)

set_option maxRecDepth 100000 in
theorem over_calls (v u : Value) (n : Int) (d m : Nat) (w : World) (hv : IsQ w v n d) (hu : IsN .u64 W w u m) (hsz : szZ n + sz W m ≤ 17592186044096) :
    Calls Try.prog 72 #[v, u] w fun e w' => ∃ v', e = .returned v' ∧ FrZ w.heap.size w' v' (n * m) ∧ Ext w w' := by
  obtain ⟨b, s, t, m', d0, rfl, hs, hnum, ht, hd⟩ := hv
  have hsm : sz W m' + sz W m ≤ 17592186044096 := by rw [hnum] at hsz; unfold szZ at hsz; rwa [sgn_natAbs] at hsz
  go_enter Try.func72, Try.ntmps72
  go_wp2_with fail
  obtain ⟨w1, hw1, e1, b1, b2, s1⟩ := alloc2 w #[.bool b, s, t] #[.bool false, .slice none 0 0] 28 24
  rw [← hw1]
  clear hw1
  refine wp_region_puts [⟨9, (w.heap.size + 1), 24, PP.frZ (sgn b (m' * m))⟩] [PP.val (.pointer (some ⟨w.heap.size, 0, none⟩)), PP.val (.pointer (some ⟨w.heap.size, 0, none⟩)), PP.val (.bool b), PP.val (.pointer (some ⟨w.heap.size, 0, none⟩)), PP.val (.pointer (some ⟨w.heap.size, 1, none⟩)), PP.val (s), PP.val (u), PP.frN 79 .u64 W (m' * m), PP.frZ (sgn b (m' * m)), PP.any] [] [9, 8, 7, 6, 5, 4, 3, 2, 1, 0]
    (by kernel_rfl) (by kernel_rfl) (fun f => (by simp only [fillR, fillL, List.setIfInBounds_toArray, List.set_cons_succ, List.set_cons_zero, Nat.reduceAdd]; rfl)) ?_ ?_ ?_ ?_ ?_
  · intro x hx; simp only [List.mem_singleton] at hx; subst hx; exact ⟨by show (w.heap.size + 1) < w1.heap.size; omega, rfl⟩
  · intro x hx; simp only [List.mem_singleton] at hx; subst hx; rfl
  · intro x hx y hy h; simp only [List.mem_singleton] at hx hy; subst hx hy; exact absurd rfl h
  · refine ⟨?o0, ?o1, ?o2, ?o3, ?o4, ?o5, ?o6, ?o7, ?o8, ?o9, trivial⟩
    case o0 =>
      intro f w2 hG hp hl
      have hE : Ext w1 w2 := hG
      have hS := hE.size
      simp only [OpGoal]
      go_simp
      exact ⟨_, rfl, Ext.refl _, rfl⟩
    case o1 =>
      intro f w2 hG hp hl
      have hE : Ext w1 w2 := hG
      have hS := hE.size
      have q5 : f 0 = .pointer (some ⟨w.heap.size, 0, none⟩) := tellV hp 0 0 rfl rfl (fun h => by cases h)
      simp only [OpGoal]
      go_simp
      exact ⟨_, rfl, Ext.refl _, rfl⟩
    case o2 =>
      intro f w2 hG hp hl
      have hE : Ext w1 w2 := hG
      have hS := hE.size
      have q6 : f 1 = .pointer (some ⟨w.heap.size, 0, none⟩) := tellV hp 0 1 rfl rfl (fun h => by cases h)
      have hcell := (b1.ext hE).cell 0
      simp only [OpGoal]
      go_simp
      exact ⟨_, rfl, Ext.refl _, rfl⟩
    case o3 =>
      intro f w2 hG hp hl
      have hE : Ext w1 w2 := hG
      have hS := hE.size
      simp only [OpGoal]
      go_simp
      exact ⟨_, rfl, Ext.refl _, rfl⟩
    case o4 =>
      intro f w2 hG hp hl
      have hE : Ext w1 w2 := hG
      have hS := hE.size
      have q8 : f 3 = .pointer (some ⟨w.heap.size, 0, none⟩) := tellV hp 0 3 rfl rfl (fun h => by cases h)
      simp only [OpGoal]
      go_simp
      exact ⟨_, rfl, Ext.refl _, rfl⟩
    case o5 =>
      intro f w2 hG hp hl
      have hE : Ext w1 w2 := hG
      have hS := hE.size
      have q9 : f 4 = .pointer (some ⟨w.heap.size, 1, none⟩) := tellV hp 0 4 rfl rfl (fun h => by cases h)
      have hcell := (b1.ext hE).cell 1
      simp only [OpGoal]
      go_simp
      exact ⟨_, rfl, Ext.refl _, rfl⟩
    case o6 =>
      intro f w2 hG hp hl
      have hE : Ext w1 w2 := hG
      have hS := hE.size
      simp only [OpGoal]
      go_simp
      exact ⟨_, rfl, Ext.refl _, rfl⟩
    case o7 =>
      intro f w2 hG hp hl
      have hE : Ext w1 w2 := hG
      have hS := hE.size
      have q10 : f 5 = s := tellV hp 0 5 rfl rfl (fun h => by cases h)
      have q11 : f 6 = u := tellV hp 1 6 rfl rfl (fun h => by cases h)
      change OpGoal _ _ _ f w2 Ext _
      refine og_call (P := Try.prog) _ _ _ #[f 5, f 6] Try.func76 (by kernel_rfl) (by kernel_rfl) rfl rfl (by kernel_rfl) ?_
      rw [q10, q11]
      refine (mul_calls m' m _ _ _ hsm (hs.ext (e1.trans hE)) (hu.ext (e1.trans hE))).mono ?_
      rintro e w' ⟨v', rfl, h1, h2⟩
      exact ⟨v', rfl, h2, h1.mono hS⟩
    case o8 =>
      intro f w2 hG hp hl
      have hE : Ext w1 w2 := hG
      have hS := hE.size
      have q7 : f 2 = .bool b := tellV hp 0 2 rfl rfl (fun h => by cases h)
      have q12 := tellV hp 1 7 rfl rfl (fun _ => hE)
      change OpGoal _ _ _ f w2 Ext _
      refine og_call (P := Try.prog) _ _ _ #[f 2, f 7] Try.func57 (by kernel_rfl) (by kernel_rfl) rfl rfl (by kernel_rfl) ?_
      rw [q7]
      refine (make_calls _ _ _ _ (q12.isC.isN W_gt (Nat.le_trans (sz_mul m' m) (by rw [LIM_eq]; omega)))).mono ?_
      rintro e w' ⟨v', rfl, h1, h2⟩
      exact ⟨v', rfl, h2, h1.mono hS⟩
    case o9 =>
      intro f w2 hG hp hl
      have hE : Ext w1 w2 := hG
      have hS := hE.size
      have q13 := tellV hp 0 8 rfl rfl (fun _ => hE)
      intro hg0
      change OpGoal _ _ _ f w2 (Chg _) _
      obtain ⟨s', hv, hn⟩ := q13
      exact og_store (P := Try.prog) _ _ _ (w.heap.size + 1) _ _ _ (PP.frZ _ : PP _).p rfl rfl rfl hv (show Bx 24 w2 _ _ from hg0.trans b2) (by kernel_rfl) rfl (all2 rfl hn.oneCell) (fun w' h => ⟨s', rfl, hn.chg h (by omega)⟩)
  · intro f w2 hG hp
    obtain ⟨cs0, hbx0, hz0⟩ : ∃ cs, Bx 24 w2 (w.heap.size + 1) cs ∧ (PP.frZ (sgn b (m' * m)) : PP w1.heap.size).p (.agg cs) w2 := endS hp 9 (by decide)
    clear hp
    have hz1 := hz0.mono (show w.heap.size ≤ _ by omega)
    obtain ⟨s', hv, hn⟩ := hz0
    cases hv
    go_wp2
    refine ret_box 4 24 (w.heap.size + 1) 24 _ _ (by kernel_rfl) rfl hbx0 Try.underlying24 rfl (by kernel_rfl) rfl ?_
    rw [show n * (m : Int) = sgn b (m' * m) by rw [hnum]; cases b <;> simp [sgn, Int.neg_mul]]
    exact ⟨_, rfl, hz1, e1.stepS hG (by simp)⟩

set_option maxRecDepth 100000 in
theorem lowest_calls (v u : Value) (z : Int) (d : Nat) (w : World) (hv : IsZ w v z) (hu : IsN .u64 W w u d) (hd : 0 < d) (hsz : szZ z ≤ 17592186044096) (hsd : sz W d ≤ 17592186044096) :
    Calls Try.prog 56 #[v, u] w fun e w' => ∃ v', e = .returned v' ∧ FrQ w.heap.size w' v' (mkRat z d) ∧ Ext w w' := by
  obtain ⟨b, s, n, rfl, hs, hz⟩ := hv
  have hsn : sz W n ≤ 17592186044096 := by rw [hz] at hsz; unfold szZ at hsz; rwa [sgn_natAbs] at hsz
  have hgc := sgn_gcd b n d hd
  rw [← hz] at hgc
  have Hgc := Lib.hid hgc
  have Hz := Lib.hid hz
  clear hz hgc
  go_enter Try.func56, Try.ntmps56
  go_wp2_with fail
  obtain ⟨w1, hw1, e1, b1, b2, s1⟩ := alloc2 w #[.bool b, s] #[.bool false, .slice none 0 0, .slice none 0 0] 24 28
  rw [← hw1]
  clear hw1
  refine (gcd_calls _ _ n d _ (hs.ext e1) (hu.ext e1) hsn hsd).mono ?_
  rintro e w2 ⟨vg, rfl, hg, e2⟩
  have hg0 : 0 < Nat.gcd n d := Nat.gcd_pos_of_pos_right _ hd
  have hgN := hg.isC.isN W_gt (Nat.le_trans (sz_mono (Nat.le_of_dvd hd (Nat.gcd_dvd_right n d))) (by rw [LIM_eq]; omega))
  have hc1 := (b1.ext e2).cell 1
  go_wp2_with fail
  refine (divmod_calls _ _ n (Nat.gcd n d) _ (hs.ext (e1.trans e2)) hgN hg0 hsn).mono ?_
  rintro e w3 ⟨va, vr, rfl, ha, hr, e3⟩
  go_wp2_with fail
  refine (divmod_calls _ _ d (Nat.gcd n d) _ (hu.ext ((e1.trans e2).trans e3)) (hgN.ext e3) hg0 hsd).mono ?_
  rintro e w4 ⟨vd, vr2, rfl, hdd, hr2, e4⟩
  have hc0 := (((b1.ext e2).ext e3).ext e4).cell 0
  go_wp2_with fail
  refine (make_calls b _ (n / Nat.gcd n d) _ ((ha.ext e4).isC.isN W_gt (Nat.le_trans (sz_mono (Nat.div_le_self n _)) (by rw [LIM_eq]; omega)))).mono ?_
  rintro e w5 ⟨vz, rfl, hz, e5⟩
  obtain ⟨s', rfl, hn⟩ := hz
  obtain ⟨adz, capz, rfl⟩ := hn.slice
  obtain ⟨add, capd, rfl⟩ := hdd.slice
  have Hn := Lib.hid hn
  have Hd := Lib.hid (hdd.ext e5)
  have hb := (((b2.ext e2).ext e3).ext e4).ext e5
  clear hn hdd hc0 hc1 hgN
  have hs2 := e2.size
  have hs3 := e3.size
  have hs4 := e4.size
  have hs5 := e5.size
  have hc0 := hb.cell 0
  have hc1 := hb.cell 1
  have hc2 := hb.cell 2
  have hf0 := hb.free 0
  have hf1 := hb.free 1
  have hf2 := hb.free 2
  go_wp2
  refine ret_box 4 28 (w.heap.size + 1) 28 _ _ (by kernel_rfl) rfl (((hb.set 0 _).set 1 _).set 2 _) Try.underlying28 rfl (by kernel_rfl) rfl ?_
  have hch := (Chg.trans (Chg.trans (Chg.setCell w5 (w.heap.size + 1) 0 (.bool (decide (sgn b (n / Nat.gcd n d) < 0)))) (Chg.setCell _ (w.heap.size + 1) 1 (.slice adz (sz W (sgn b (n / Nat.gcd n d)).natAbs) capz))) (Chg.setCell _ (w.heap.size + 1) 2 (.slice add (sz W (d / Nat.gcd n d)) capd)))
  refine ⟨_, rfl, ⟨.slice adz (sz W (sgn b (n / Nat.gcd n d)).natAbs) capz, .slice add (sz W (d / Nat.gcd n d)) capd, ?_, ?_, ?_⟩, (((((e1.trans e2).trans e3).trans e4).trans e5).step hch (by omega))⟩
  rotate_left
  · rw [Hgc.out.1]; exact (Hn.out.chg hch (by omega)).mono (by omega)
  · rw [Hgc.out.2]; exact (Hd.out.chg hch (by omega)).mono (by omega)
  · rw [Hgc.out.1]; rfl
/-- v tells the fraction q, in whatever form, with at most a words above and b below. -/
def IsS (w : World) (v : Value) (q : Rat) (a b : Nat) : Prop := ∃ n d, IsQ w v n d ∧ q = mkRat n d ∧ szZ n ≤ a ∧ sz W d ≤ b
theorem IsS.ext {w w' : World} {v : Value} {q : Rat} {a b : Nat} (h : IsS w v q a b) (he : Ext w w') : IsS w' v q a b := by
  obtain ⟨n, d, h1, h2⟩ := h
  exact ⟨n, d, h1.ext he, h2⟩
theorem IsR.isS {w : World} {v : Value} {q : Rat} {k : Nat} (h : IsR w v q k) : IsS w v q k k := h
theorem IsS.isR {w : World} {v : Value} {q : Rat} {a b k : Nat} (h : IsS w v q a b) (ha : a ≤ k) (hb : b ≤ k) : IsR w v q k := by
  obtain ⟨n, d, h1, h2, h3, h4⟩ := h
  exact ⟨n, d, h1, h2, by omega, by omega⟩
theorem FrQ.isS {B0 : Nat} {w : World} {v : Value} {q : Rat} (h : FrQ B0 w v q) {a b : Nat} (ha : szZ q.num ≤ a) (hb : sz W q.den ≤ b) (la : a ≤ LIM .u64) (lb : b ≤ LIM .u64) : IsS w v q a b :=
  ⟨q.num, q.den, h.isQ (Nat.max_le.2 ⟨by omega, by omega⟩), (Rat.mkRat_self q).symm, ha, hb⟩
theorem IsS.szs {w : World} {v : Value} {q : Rat} {a b : Nat} (h : IsS w v q a b) : szZ q.num ≤ a ∧ sz W q.den ≤ b := by
  obtain ⟨n, d, h1, rfl, h3, h4⟩ := h
  have := szQ_mkRat n d h1.pos
  exact ⟨by omega, by omega⟩
end Go.Proofs.Ytnefipinicfegaa
