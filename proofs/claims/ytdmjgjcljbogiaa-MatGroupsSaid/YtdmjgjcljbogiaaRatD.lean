/-
 rat's functions, walked (IV): quotients, whole numbers, rounding.
-/
import Derived.Test.YtdmjgjcljbogiaaRatC
import Derived.Test.YtdmjgjcljbogiaaAl
namespace Go.Proofs.Ytdmjgjcljbogiaa
set_option maxRecDepth 100000
set_option maxHeartbeats 1000000
open Go.RowKit
set_option linter.unusedVariables false
set_option linter.unusedSimpArgs false
theorem rofint_calls (v : Value) (z : Int) (w : World) (hv : IsZ w v z) (hsz : szZ z ≤ 68719476736) :
  Calls Try.prog 14 #[v] w fun e w' => ∃ v', e = .returned v' ∧ FrQ w.heap.size w' v' (z : Rat) ∧ Ext w w' := by
 obtain ⟨b, s, n, rfl, hs, hz⟩ := hv
 have Hz := Lib.hid hz
 go_enter Try.func14, Try.ntmps14
 obtain ⟨w1, hw1, e1, b1, b2, s1⟩ := alloc2 w #[.bool b, s] #[.bool false, .slice none 0 0, .slice none 0 0] 24 28
 have hc0 := b1.cell 0
 have hc1 := b1.cell 1
 rw [hw1] at hc0 hc1
 go_wp2_with fail
 rw [← hw1]
 clear hc0 hc1 hz
 refine (make_calls _ s n _ (hs.ext e1)).mono ?_
 rintro e w2 ⟨vz, rfl, hz, e2⟩
 obtain ⟨s', rfl, hn⟩ := hz
 obtain ⟨ad, cap, rfl⟩ := hn.slice
 have Hn := Lib.hid hn
 clear hn
 go_wp2_with fail
 refine (one_calls _).mono ?_
 rintro e w3 ⟨v1, rfl, h1, e3⟩
 obtain ⟨ad1, cap1, rfl⟩ := h1.slice
 have H1 := Lib.hid h1
 clear h1
 have es2 := e2.size
 have hb := (b2.ext e2).ext e3
 have hc0 := hb.cell 0
 have hc1 := hb.cell 1
 have hc2 := hb.cell 2
 have hf0 := hb.free 0
 have hf1 := hb.free 1
 have hf2 := hb.free 2
 go_wp2
 refine ret_box 2 28 (w.heap.size + 1) 28 _ _ (by kernel_rfl) rfl (((hb.set 0 _).set 1 _).set 2 _) Try.underlying28 rfl (by kernel_rfl) rfl ?_
 rw [Hz.out]
 exact ⟨_, rfl, ⟨_, _, rfl, (((Hn.out.ext e3).chg (Chg.trans (Chg.trans (Chg.setCell _ (w.heap.size + 1) 0 _) (Chg.setCell _ (w.heap.size + 1) 1 _)) (Chg.setCell _ (w.heap.size + 1) 2 _))
 (by omega)).mono (by omega)), ((H1.out.chg (Chg.trans (Chg.trans (Chg.setCell _ (w.heap.size + 1) 0 _) (Chg.setCell _ (w.heap.size + 1) 1 _)) (Chg.setCell _ (w.heap.size + 1) 2 _))
 (by omega)).mono (by omega))⟩, ((e1.trans e2).trans e3).step (Chg.trans (Chg.trans (Chg.setCell _ (w.heap.size + 1) 0 _) (Chg.setCell _ (w.heap.size + 1) 1 _)) (Chg.setCell _ (w.heap.size + 1) 2 _))
 (by omega)⟩
theorem rwhole_calls (x : Int) (w : World) (h0 : -9223372036854775808 ≤ x) (h1 : x ≤ 9223372036854775807) :
  Calls Try.prog 23 #[.int .i64 x] w fun e w' => ∃ v', e = .returned v' ∧ FrQ w.heap.size w' v' (x : Rat) ∧ Ext w w' := by
 have hx1 : szZ x ≤ 1 := szZ_small (by rw [W_eq]; omega)
 go_enter Try.func23, Try.ntmps23
 go_wp2_with fail
 obtain ⟨w1, hw1, e1, b1, s1⟩ := alloc1 w #[.bool false, .slice none 0 0, .slice none 0 0] 28
 rw [← hw1]
 refine (zof_calls x _ h0 h1).mono ?_
 rintro e w2 ⟨v1, rfl, hv1, e2⟩
 go_wp2_with fail
 refine (rofint_calls _ x _ (hv1.isZ (by rw [LIM_eq]; omega)) (by omega)).mono ?_
 rintro e w4 ⟨v3, rfl, hq, e4⟩
 obtain ⟨s', t', rfl, hn, hm⟩ := hq
 obtain ⟨ad, cap, rfl⟩ := hn.slice
 obtain ⟨ad2, cap2, rfl⟩ := hm.slice
 have Hn := Lib.hid hn
 have Hm := Lib.hid hm
 clear hn hm
 have es2 := e2.size
 have hb := (b1.ext e2).ext e4
 have hc0 := hb.cell 0
 have hc1 := hb.cell 1
 have hc2 := hb.cell 2
 have hf0 := hb.free 0
 have hf1 := hb.free 1
 have hf2 := hb.free 2
 go_wp2
 refine ret_box 2 28 w.heap.size 28 _ _ (by kernel_rfl) rfl (((hb.set 0 _).set 1 _).set 2 _) Try.underlying28 rfl (by kernel_rfl) rfl ?_
 exact ⟨_, rfl, ⟨_, _, rfl, ((Hn.out.chg (Chg.trans (Chg.trans (Chg.setCell _ w.heap.size 0 _) (Chg.setCell _ w.heap.size 1 _)) (Chg.setCell _ w.heap.size 2 _))
 (by omega)).mono (by omega)), ((Hm.out.chg (Chg.trans (Chg.trans (Chg.setCell _ w.heap.size 0 _) (Chg.setCell _ w.heap.size 1 _)) (Chg.setCell _ w.heap.size 2 _))
 (by omega)).mono (by omega))⟩, ((e1.trans e2).trans e4).step (Chg.trans (Chg.trans (Chg.setCell _ w.heap.size 0 _) (Chg.setCell _ w.heap.size 1 _)) (Chg.setCell _ w.heap.size 2 _))
 (by omega)⟩
end Go.Proofs.Ytdmjgjcljbogiaa
