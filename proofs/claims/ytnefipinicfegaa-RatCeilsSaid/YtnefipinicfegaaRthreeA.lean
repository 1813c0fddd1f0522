/-
  The document's fractions, walked (I).
-/
import Derived.Test.YtnefipinicfegaaRtwoC
namespace Go.Proofs.Ytnefipinicfegaa
open Go.RowKit
set_option linter.unusedVariables false
set_option linter.unusedSimpArgs false

/-- v tells the document's fraction q. -/
def CQ (w : World) (v : Value) (q : Rat) : Prop := ∃ s t, v = .agg #[.bool (decide (q.num < 0)), s, t] ∧ IsC .i64 TK w s q.num.natAbs ∧ IsC .i64 TK w t q.den
/-- .. in memory of the call's own. -/
def FrQd (B0 : Nat) (w : World) (v : Value) (q : Rat) : Prop := ∃ s t, v = .agg #[.bool (decide (q.num < 0)), s, t] ∧ FrN 3 .i64 TK B0 w s q.num.natAbs ∧ FrN 3 .i64 TK B0 w t q.den
/-- How many places a fraction has at most. -/
def szD (q : Rat) : Nat := max (szT q.num) (sz TK q.den)
set_option maxRecDepth 100000 in
set_option maxHeartbeats 1000000 in
theorem CQ.ext {w w' : World} {v : Value} {q : Rat} (h : CQ w v q) (he : Ext w w') : CQ w' v q := by
  obtain ⟨s, t, h1, h2, h3⟩ := h
  exact ⟨s, t, h1, h2.ext he, h3.ext he⟩
set_option maxRecDepth 100000 in
set_option maxHeartbeats 1000000 in
theorem CQ.schg {S : Nat} {w1 w2 : World} {v : Value} {q : Rat} (h : CQ w1 v q) (hc : SChg S w1 w2) : CQ w2 v q := by
  obtain ⟨s, t, h1, h2, h3⟩ := h
  exact ⟨s, t, h1, h2.schg hc, h3.schg hc⟩
set_option maxRecDepth 100000 in
set_option maxHeartbeats 1000000 in
theorem FrQd.ext {B0 : Nat} {w w' : World} {v : Value} {q : Rat} (h : FrQd B0 w v q) (he : Ext w w') : FrQd B0 w' v q := by
  obtain ⟨s, t, h1, h2, h3⟩ := h
  exact ⟨s, t, h1, h2.ext he, h3.ext he⟩
set_option maxRecDepth 100000 in
set_option maxHeartbeats 1000000 in
theorem FrQd.chg {B0 g : Nat} {w w' : World} {v : Value} {q : Rat} (h : FrQd B0 w v q) (he : Chg g w w') (hg : g < B0) : FrQd B0 w' v q := by
  obtain ⟨s, t, h1, h2, h3⟩ := h
  exact ⟨s, t, h1, h2.chg he hg, h3.chg he hg⟩
set_option maxRecDepth 100000 in
set_option maxHeartbeats 1000000 in
theorem FrQd.mono {B0 B1 : Nat} {w : World} {v : Value} {q : Rat} (h : FrQd B0 w v q) (hB : B1 ≤ B0) : FrQd B1 w v q := by
  obtain ⟨s, t, h1, h2, h3⟩ := h
  exact ⟨s, t, h1, h2.mono hB, h3.mono hB⟩
set_option maxRecDepth 100000 in
set_option maxHeartbeats 1000000 in
theorem FrQd.schg {S : Nat} {w1 w2 : World} {B0 : Nat} {v : Value} {q : Rat} (h : FrQd B0 w1 v q) (hc : SChg S w1 w2) : FrQd B0 w2 v q := by
  obtain ⟨s, t, h1, h2, h3⟩ := h
  exact ⟨s, t, h1, h2.schg hc (.inr rfl), h3.schg hc (.inr rfl)⟩
set_option maxRecDepth 100000 in
set_option maxHeartbeats 1000000 in
theorem FrQd.cq {B0 : Nat} {w : World} {v : Value} {q : Rat} (h : FrQd B0 w v q) : CQ w v q := by
  obtain ⟨s, t, h1, h2, h3⟩ := h
  exact ⟨s, t, h1, h2.isC, h3.isC⟩
set_option maxRecDepth 100000 in
set_option maxHeartbeats 1000000 in
theorem CQ.parts {w : World} {v : Value} {q : Rat} (h : CQ w v q) : ∃ s t, v = .agg #[.bool (decide (q.num < 0)), s, t] ∧ IsC .i64 TK w s q.num.natAbs ∧ IsC .i64 TK w t q.den := h
set_option maxRecDepth 100000 in
set_option maxHeartbeats 1000000 in
theorem CQ.cells {w : World} {v : Value} {q : Rat} (h : CQ w v q) : ∃ cells, v = .agg cells ∧ cells.size = 3 ∧ cells.all (·.oneCell') = true ∧ NoInt cells := by
  obtain ⟨s, t, rfl, hn, hm⟩ := h
  obtain ⟨ad, cap, rfl⟩ := hn.slice
  obtain ⟨ad2, cap2, rfl⟩ := hm.slice
  exact ⟨_, rfl, rfl, all3 rfl rfl rfl, noInt3 _ _ _ _ _ _ _⟩
set_option maxRecDepth 100000 in
set_option maxHeartbeats 1000000 in
theorem FrQd.parts {B0 : Nat} {w : World} {v : Value} {q : Rat} (h : FrQd B0 w v q) : ∃ cells, v = .agg cells ∧ cells.size = 3 ∧ cells.all (·.oneCell') = true ∧ NoInt cells := h.cq.cells
def PP.frQd {S : Nat} (q : Rat) : PP S := ⟨false, fun u w => FrQd S w u q, fun _ _ _ h hp => hp.ext h, fun _ _ hg _ _ _ h hp => hp.chg h hg⟩
def PP.frQdS {S : Nat} (q : Rat) (k : Nat) : PP S := ⟨false, fun u w => FrQd S w u q ∧ szD q ≤ k, fun _ _ _ h hp => ⟨hp.1.ext h, hp.2⟩, fun _ _ hg _ _ _ h hp => ⟨hp.1.chg h hg, hp.2⟩⟩
def PA.frQd {S : Nat} (q : Rat) : PA S := ⟨fun u w => FrQd S w u q, fun _ _ _ h hp => hp.ext h, fun _ _ _ h hp => hp.schg h⟩
def PP.cq {S : Nat} (q : Rat) : PP S := ⟨true, fun u w => CQ w u q, fun _ _ _ h hp => hp.ext h, fun h => by cases h⟩
def PA.cq {S : Nat} (q : Rat) : PA S := ⟨fun u w => CQ w u q, fun _ _ _ h hp => hp.ext h, fun _ _ _ h hp => hp.schg h⟩
def PP.cz {S : Nat} (z : Int) : PP S := ⟨true, fun u w => CZ w u z, fun _ _ _ h hp => hp.ext h, fun h => by cases h⟩

set_option maxRecDepth 100000 in
set_option maxHeartbeats 1000000 in
theorem szD_mkRat (n : Int) (d : Nat) (hd : 0 < d) : szT (mkRat n d).num ≤ szT n ∧ sz TK (mkRat n d).den ≤ sz TK d := by
  rw [Rat.num_mkRat, Rat.den_mkRat, if_neg (by omega), if_neg (by omega)]
  constructor
  · unfold szT
    exact dg_len_mono TK_gt (Int.natAbs_ediv_le_natAbs _ _)
  · exact dg_len_mono TK_gt (Nat.div_le_self _ _)

set_option maxRecDepth 100000 in
set_option maxHeartbeats 1000000 in
theorem lowest3_calls (b : Bool) (s u : Value) (n d : Nat) (w : World) (hs : IsC .i64 TK w s n) (hu : IsN .i64 TK w u d) (hd : 0 < d) (hsz : sz TK n ≤ 68719476736) (hsd : sz TK d ≤ 68719476736) :
    Calls Try.prog 63 #[.agg #[.bool b, s], u] w fun e w' => ∃ v', e = .returned v' ∧ FrQd w.heap.size w' v' (mkRat (sgn b n) d) ∧ Ext w w' := by
  have Hgc := Lib.hid (sgn_gcd b n d hd)
  have hsN := hs.isN TK_gt (by (first | rw [LIM_eq] | rw [LIM_eqT]); omega)
  obtain ⟨ads, caps, rfl⟩ := hs.slice
  have hn0 := @szT_zero n
  clear hs
  go_enter Try.func63, Try.ntmps63
  obtain ⟨w1, hw1, e1, b1, b2, s1⟩ := alloc2 w #[.bool b, .slice ads (sz TK n) caps] #[.bool false, .slice none 0 0, .slice none 0 0] 34 40
  have hc1 := b1.cell 1
  rw [hw1] at hc1
  rcases Nat.eq_zero_or_pos n with h0 | h0
  · subst h0
    have hz0 : sz TK 0 = 0 := rfl
    rw [hz0] at hc1 b1 hw1 ⊢
    go_wp2
    obtain ⟨w3, hw3, e3, c1, c2, c3, s3⟩ := alloc3 w #[.bool b, .slice ads 0 caps] #[.bool false, .slice none 0 0, .slice (some ⟨w.heap.size + 1 + 1, 0, none⟩) 1 1] #[.int .i64 1] 34 40 3
    rw [← hw3]
    have hq0 : mkRat (sgn b 0) d = 0 := by cases b <;> simp [sgn]
    rw [hq0]
    refine ret_box 4 40 (w.heap.size + 1) 40 _ _ (by kernel_rfl) rfl c2 Try.underlying40 rfl (by kernel_rfl) rfl ?_
    refine ⟨_, rfl, ⟨.slice none 0 0, .slice (some ⟨w.heap.size + 1 + 1, 0, none⟩) 1 1, by first | rfl | simp, ⟨none, 0, rfl, by simp [dg_zero], by omega, .inl ⟨rfl, rfl, rfl⟩⟩, ?_⟩, e3⟩
    unfold FrN
    rw [Rat.zero_den, dg_small TK_gt (by omega) (by rw [TK_eq]; omega)]
    exact ⟨_, 1, rfl, Nat.le_refl _, by omega, .inr ⟨w.heap.size + 1 + 1, _, rfl, by omega, c3, rfl, rfl⟩⟩
  · have hz0 : ¬ sz TK n = 0 := fun e => by have := hn0.1 e; omega
    clear hn0
    go_wp2_with fail
    rw [← hw1]
    clear hc1
    refine (rgcd01_calls _ _ n d _ (hsN.ext e1) (hu.ext e1) hsz hsd).mono ?_
    rintro e w2 ⟨vg, rfl, hg, e2⟩
    have hg0 : 0 < Nat.gcd n d := Nat.gcd_pos_of_pos_right _ hd
    have hgs : sz TK (Nat.gcd n d) ≤ 68719476736 := Nat.le_trans (dg_len_mono TK_gt (Nat.le_of_dvd hd (Nat.gcd_dvd_right n d))) hsd
    have hgN := hg.isC.isN TK_gt (by (first | rw [LIM_eq] | rw [LIM_eqT]); omega)
    have hc1 := (b1.ext e2).cell 1
    go_wp2_with fail
    refine (rdm01_calls _ _ n (Nat.gcd n d) _ (hsN.ext (e1.trans e2)) hgN hg0 hgs).mono ?_
    rintro e w3 ⟨va, vr, rfl, ha, hr, e3⟩
    go_wp2_with fail
    refine (rdm01_calls _ _ d (Nat.gcd n d) _ (hu.ext ((e1.trans e2).trans e3)) (hgN.ext e3) hg0 hgs).mono ?_
    rintro e w4 ⟨vd, vr2, rfl, hdd, hr2, e4⟩
    obtain ⟨ada, capa, rfl⟩ := ha.slice
    obtain ⟨add, capd, rfl⟩ := hdd.slice
    have Ha := Lib.hid (ha.ext e4)
    have Hd := Lib.hid hdd
    have hb := ((b2.ext e2).ext e3).ext e4
    have hk0 := (((b1.ext e2).ext e3).ext e4).cell 0
    clear ha hdd hgN
    have hs2 := e2.size
    have hs3 := e3.size
    have hs4 := e4.size
    have hc0 := hb.cell 0
    have hcc1 := hb.cell 1
    have hc2 := hb.cell 2
    have hf0 := hb.free 0
    have hf1 := hb.free 1
    have hf2 := hb.free 2
    go_wp2
    refine ret_box 4 40 (w.heap.size + 1) 40 _ _ (by kernel_rfl) rfl (((hb.set 0 _).set 1 _).set 2 _) Try.underlying40 rfl (by kernel_rfl) rfl ?_
    have hdiv : 0 < n / Nat.gcd n d := Nat.div_pos (Nat.le_of_dvd h0 (Nat.gcd_dvd_left n d)) hg0
    have hneg : decide ((mkRat (sgn b n) d).num < 0) = b := by
      rw [Hgc.out.1]
      have := sgn_lt b (n / Nat.gcd n d)
      cases b
      · exact decide_eq_false (by rw [this]; simp)
      · exact decide_eq_true (by rw [this]; exact ⟨rfl, hdiv⟩)
    have hch := (Chg.trans (Chg.trans (Chg.setCell w4 (w.heap.size + 1) 0 (.bool b)) (Chg.setCell _ (w.heap.size + 1) 1 (.slice ada (sz TK (n / Nat.gcd n d)) capa))) (Chg.setCell _ (w.heap.size + 1) 2 (.slice add (sz TK (d / Nat.gcd n d)) capd)))
    refine ⟨_, rfl, ⟨.slice ada (sz TK (n / Nat.gcd n d)) capa, .slice add (sz TK (d / Nat.gcd n d)) capd, ?_, ?_, ?_⟩, (((e1.trans e2).trans e3).trans e4).step hch (by omega)⟩
    · rw [hneg]; rfl
    · rw [Hgc.out.1, sgn_natAbs]; exact (Ha.out.chg hch (by omega)).mono (by omega)
    · rw [Hgc.out.2]; exact (Hd.out.chg hch (by omega)).mono (by omega)

set_option maxRecDepth 100000 in
set_option maxHeartbeats 1000000 in
theorem times3_calls (v d : Value) (z : Int) (m : Nat) (w : World) (hv : CZ w v z) (hd : IsC .i64 TK w d m) (hsz : szT z ≤ 68719476736) (hsd : sz TK m ≤ 68719476736) :
    Calls Try.prog 73 #[v, d] w fun e w' => ∃ v', e = .returned v' ∧ FrZd w.heap.size w' v' (z * m) ∧ Ext w w' := by
  have hV := Lib.hid hv
  obtain ⟨b, s, n, rfl, -, -⟩ := hv.parts
  have hY : CZ w (.agg #[.bool false, d]) (m : Int) := ⟨d, by rw [decide_eq_false (by omega)], hd⟩
  obtain ⟨add, capd, rfl⟩ := hd.slice
  clear hv
  go_enter Try.func73, Try.ntmps73
  obtain ⟨w1, hw1, e1, b1, b2, s1⟩ := alloc2 w #[.bool b, s] #[.bool false, .slice none 0 0] 34 34
  have hc0 := b1.cell 0
  have hc1 := b1.cell 1
  rw [hw1] at hc0 hc1
  go_wp2_with fail
  rw [← hw1]
  clear hc0 hc1
  refine (zmul2_calls _ _ z (m : Int) _ (hV.out.ext e1) (hY.ext e1) hsz hsd).mono ?_
  rintro e w2 ⟨v', rfl, hz, hext⟩
  obtain ⟨s', rfl, hn⟩ := hz
  obtain ⟨ad, cap, rfl⟩ := hn.slice
  have Hn := Lib.hid hn
  clear hn
  have hb := b2.ext hext
  have hc0 := hb.cell 0
  have hc1 := hb.cell 1
  have hf0 := hb.free 0
  have hf1 := hb.free 1
  go_wp2
  refine ret_box 4 34 (w.heap.size + 1) 34 _ _ (by kernel_rfl) rfl ((hb.set 0 _).set 1 _) Try.underlying34 rfl (by kernel_rfl) rfl ?_
  exact ⟨_, rfl, ⟨_, (by first | rfl | simp_all), (Hn.out.chg (Chg.trans (Chg.setCell _ (w.heap.size + 1) 0 _) (Chg.setCell _ (w.heap.size + 1) 1 _)) (by omega)).mono (by omega)⟩, (e1.trans hext).step (Chg.trans (Chg.setCell _ (w.heap.size + 1) 0 _) (Chg.setCell _ (w.heap.size + 1) 1 _)) (by omega)⟩
end Go.Proofs.Ytnefipinicfegaa
