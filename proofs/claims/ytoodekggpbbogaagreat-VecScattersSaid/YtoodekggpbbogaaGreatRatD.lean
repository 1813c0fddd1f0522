/-
  rat's functions, walked (IV): quotients, whole numbers, rounding.
-/
import Derived.Test.YtoodekggpbbogaaGreatRatC
import Derived.Test.YtoodekggpbbogaaGreatAl
namespace Go.Proofs.YtoodekggpbbogaaGreat
open Go.RowKit
set_option linter.unusedVariables false
set_option linter.unusedSimpArgs false

set_option maxRecDepth 100000 in
theorem div_mkRat (n m : Int) (d e : Nat) : mkRat n d / mkRat m e = Rat.divInt (n * e) (m * d) := by
  rw [Rat.div_def, ← Rat.divInt_ofNat n d, ← Rat.divInt_ofNat m e, Rat.inv_divInt, Rat.divInt_mul_divInt, Int.mul_comm (d : Int) m]
set_option maxRecDepth 100000 in
theorem szQ_divInt (x y : Int) (hy : y ≠ 0) : szQ (Rat.divInt x y) ≤ max (szZ x) (szZ y) := by
  have h := mkRat_divInt (decide (x < 0)) (decide (y < 0)) x.natAbs y.natAbs (by omega)
  rw [sgn_self, sgn_self] at h
  rw [← h]
  have := szQ_mkRat (sgn (decide (x < 0) != decide (y < 0)) x.natAbs) y.natAbs (by omega)
  have e : szZ (sgn (decide (x < 0) != decide (y < 0)) x.natAbs) = szZ x := by unfold szZ; rw [sgn_natAbs]
  rw [e] at this
  unfold szQ
  have e2 : sz W y.natAbs = szZ y := rfl
  rw [e2] at this
  omega
def PP.tupQ {S : Nat} (q : Rat) : PP S := ⟨false, fun u w => ∃ v, u = .tuple #[v, .int .i64 0] ∧ FrQ S w v q, fun _ _ _ h hp => (let ⟨v, h1, h2⟩ := hp; ⟨v, h1, h2.ext h⟩), fun _ _ hg _ _ _ h hp => (let ⟨v, h1, h2⟩ := hp; ⟨v, h1, h2.chg h hg⟩)⟩
def PA.tupQ {S : Nat} (q : Rat) : PA S := ⟨fun u w => ∃ v, u = .tuple #[v, .int .i64 0] ∧ FrQ S w v q, fun _ _ _ h hp => (let ⟨v, h1, h2⟩ := hp; ⟨v, h1, h2.ext h⟩), fun _ _ _ h hp => (let ⟨v, h1, h2⟩ := hp; ⟨v, h1, h2.schg h⟩)⟩
def PA.tupZ {S : Nat} (x y : Int) : PA S := ⟨fun u w => ∃ v1 v2, u = .tuple #[v1, v2, .int .i64 0] ∧ FrZ S w v1 x ∧ FrZ S w v2 y, fun _ _ _ h hp => (let ⟨v, v2, h1, h2, h3⟩ := hp; ⟨v, v2, h1, h2.ext h, h3.ext h⟩), fun _ _ _ h hp => (let ⟨v, v2, h1, h2, h3⟩ := hp; ⟨v, v2, h1, h2.schg h, h3.schg h⟩)⟩
/-- A struct of no sign and a number. -/
def PA.aggN {S : Nat} (n : Nat) : PA S := ⟨fun u w => ∃ t, u = .agg #[.bool false, t] ∧ IsN .u64 W w t n, fun _ _ _ h hp => (let ⟨v, h1, h2⟩ := hp; ⟨v, h1, h2.ext h⟩), fun _ _ _ h hp => (let ⟨v, h1, h2⟩ := hp; ⟨v, h1, h2.schg h⟩)⟩

set_option maxRecDepth 100000 in
theorem rofint_calls (v : Value) (z : Int) (w : World) (hv : IsZ w v z) (hsz : szZ z ≤ 68719476736) :
    Calls Tryz.prog 67 #[v] w fun e w' => ∃ v', e = .returned v' ∧ FrQ w.heap.size w' v' (z : Rat) ∧ Ext w w' := by
  obtain ⟨b, s, n, rfl, hs, hz⟩ := hv
  have Hz := Lib.hid hz
  go_enter Tryz.func67, Tryz.ntmps67
  obtain ⟨w1, hw1, e1, b1, b2, s1⟩ := alloc2 w #[.bool b, s] #[.bool false, .slice none 0 0, .slice none 0 0] 28 30
  have hc0 := b1.cell 0
  have hc1 := b1.cell 1
  rw [hw1] at hc0 hc1
  go_wp2_with fail
  rw [← hw1]
  clear hc0 hc1 hz
  refine (make_calls _ s n _ (hs.ext e1)).mono ?_
  rintro e w2 ⟨vz, rfl, hz, e2⟩
  obtain ⟨s', rfl, hn⟩ := hz
  obtain ⟨ad, cap, rfl⟩ := hn.slice
  have Hn := Lib.hid hn
  clear hn
  go_wp2_with fail
  refine (one_calls _).mono ?_
  rintro e w3 ⟨v1, rfl, h1, e3⟩
  obtain ⟨ad1, cap1, rfl⟩ := h1.slice
  have H1 := Lib.hid h1
  clear h1
  have es2 := e2.size
  have hb := (b2.ext e2).ext e3
  have hc0 := hb.cell 0
  have hc1 := hb.cell 1
  have hc2 := hb.cell 2
  have hf0 := hb.free 0
  have hf1 := hb.free 1
  have hf2 := hb.free 2
  go_wp2
  refine ret_box 2 30 (w.heap.size + 1) 30 _ _ (by kernel_rfl) rfl (((hb.set 0 _).set 1 _).set 2 _) Tryz.underlying30 rfl (by kernel_rfl) rfl ?_
  rw [Hz.out]
  exact ⟨_, rfl, ⟨_, _, rfl, (((Hn.out.ext e3).chg (Chg.trans (Chg.trans (Chg.setCell _ (w.heap.size + 1) 0 _) (Chg.setCell _ (w.heap.size + 1) 1 _)) (Chg.setCell _ (w.heap.size + 1) 2 _))
 (by omega)).mono (by omega)), ((H1.out.chg (Chg.trans (Chg.trans (Chg.setCell _ (w.heap.size + 1) 0 _) (Chg.setCell _ (w.heap.size + 1) 1 _)) (Chg.setCell _ (w.heap.size + 1) 2 _))
 (by omega)).mono (by omega))⟩, ((e1.trans e2).trans e3).step (Chg.trans (Chg.trans (Chg.setCell _ (w.heap.size + 1) 0 _) (Chg.setCell _ (w.heap.size + 1) 1 _)) (Chg.setCell _ (w.heap.size + 1) 2 _))
 (by omega)⟩

set_option maxRecDepth 100000 in
theorem rwhole_calls (x : Int) (w : World) (h0 : -9223372036854775808 ≤ x) (h1 : x ≤ 9223372036854775807) :
    Calls Tryz.prog 43 #[.int .i64 x] w fun e w' => ∃ v', e = .returned v' ∧ FrQ w.heap.size w' v' (x : Rat) ∧ Ext w w' := by
  have hx1 : szZ x ≤ 1 := szZ_small (by rw [W_eq]; omega)
  go_enter Tryz.func43, Tryz.ntmps43
  go_wp2_with fail
  obtain ⟨w1, hw1, e1, b1, s1⟩ := alloc1 w #[.bool false, .slice none 0 0, .slice none 0 0] 30
  rw [← hw1]
  refine (zof_calls x _ h0 h1).mono ?_
  rintro e w2 ⟨v1, rfl, hv1, e2⟩
  go_wp2_with fail
  refine (rofint_calls _ x _ (hv1.isZ (by rw [LIM_eq]; omega)) (by omega)).mono ?_
  rintro e w4 ⟨v3, rfl, hq, e4⟩
  obtain ⟨s', t', rfl, hn, hm⟩ := hq
  obtain ⟨ad, cap, rfl⟩ := hn.slice
  obtain ⟨ad2, cap2, rfl⟩ := hm.slice
  have Hn := Lib.hid hn
  have Hm := Lib.hid hm
  clear hn hm
  have es2 := e2.size
  have hb := (b1.ext e2).ext e4
  have hc0 := hb.cell 0
  have hc1 := hb.cell 1
  have hc2 := hb.cell 2
  have hf0 := hb.free 0
  have hf1 := hb.free 1
  have hf2 := hb.free 2
  go_wp2
  refine ret_box 2 30 w.heap.size 30 _ _ (by kernel_rfl) rfl (((hb.set 0 _).set 1 _).set 2 _) Tryz.underlying30 rfl (by kernel_rfl) rfl ?_
  exact ⟨_, rfl, ⟨_, _, rfl, ((Hn.out.chg (Chg.trans (Chg.trans (Chg.setCell _ w.heap.size 0 _) (Chg.setCell _ w.heap.size 1 _)) (Chg.setCell _ w.heap.size 2 _))
 (by omega)).mono (by omega)), ((Hm.out.chg (Chg.trans (Chg.trans (Chg.setCell _ w.heap.size 0 _) (Chg.setCell _ w.heap.size 1 _)) (Chg.setCell _ w.heap.size 2 _))
 (by omega)).mono (by omega))⟩, ((e1.trans e2).trans e4).step (Chg.trans (Chg.trans (Chg.setCell _ w.heap.size 0 _) (Chg.setCell _ w.heap.size 1 _)) (Chg.setCell _ w.heap.size 2 _))
 (by omega)⟩
end Go.Proofs.YtoodekggpbbogaaGreat
