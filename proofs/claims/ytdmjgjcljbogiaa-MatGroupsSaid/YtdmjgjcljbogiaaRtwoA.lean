/-
 The document's whole numbers, walked (I).
-/
import Derived.Test.YtdmjgjcljbogiaaRefH
namespace Go.Proofs.Ytdmjgjcljbogiaa
set_option maxRecDepth 100000
set_option maxHeartbeats 1000000
open Go.RowKit
set_option linter.unusedVariables false
set_option linter.unusedSimpArgs false
def CZ (w : World) (v : Value) (z : Int) : Prop := ∃ s, v = .agg #[.bool (decide (z < 0)), s] ∧ IsC .i64 TK w s z.natAbs
def FrZd (B0 : Nat) (w : World) (v : Value) (z : Int) : Prop := ∃ s, v = .agg #[.bool (decide (z < 0)), s] ∧ FrN 3 .i64 TK B0 w s z.natAbs
def szT (z : Int) : Nat := sz TK z.natAbs
theorem CZ.ext {w w' : World} {v : Value} {z : Int} (h : CZ w v z) (he : Ext w w') : CZ w' v z := by
 obtain ⟨s, h1, h2⟩ := h
 exact ⟨s, h1, h2.ext he⟩
theorem FrZd.ext {B0 : Nat} {w w' : World} {v : Value} {z : Int} (h : FrZd B0 w v z) (he : Ext w w') : FrZd B0 w' v z := by
 obtain ⟨s, h1, h2⟩ := h
 exact ⟨s, h1, h2.ext he⟩
theorem FrZd.chg {B0 g : Nat} {w w' : World} {v : Value} {z : Int} (h : FrZd B0 w v z) (he : Chg g w w') (hg : g < B0) : FrZd B0 w' v z := by
 obtain ⟨s, h1, h2⟩ := h
 exact ⟨s, h1, h2.chg he hg⟩
theorem FrZd.chgS {B0 : Nat} {w w' : World} {v : Value} {z : Int} {bs : List Nat} (h : FrZd B0 w v z) (he : ChgS bs w w') (hb : ∀ g ∈ bs, g < B0) : FrZd B0 w' v z := by
 obtain ⟨s, h1, h2⟩ := h
 exact ⟨s, h1, h2.chgS he hb⟩
theorem FrZd.mono {B0 B1 : Nat} {w : World} {v : Value} {z : Int} (h : FrZd B0 w v z) (hB : B1 ≤ B0) : FrZd B1 w v z := by
 obtain ⟨s, h1, h2⟩ := h
 exact ⟨s, h1, h2.mono hB⟩
theorem FrZd.cz {B0 : Nat} {w : World} {v : Value} {z : Int} (h : FrZd B0 w v z) : CZ w v z := by
 obtain ⟨s, h1, h2⟩ := h
 exact ⟨s, h1, h2.isC⟩
theorem FrZd.schg {S : Nat} {w1 w2 : World} {B0 : Nat} {v : Value} {z : Int} (h : FrZd B0 w1 v z) (hc : SChg S w1 w2) : FrZd B0 w2 v z := by
 obtain ⟨s, h1, h2⟩ := h
 exact ⟨s, h1, h2.schg hc (.inr rfl)⟩
theorem IsC.schg {S : Nat} {w1 w2 : World} {k : IntKind} {B n : Nat} {v : Value} (h : IsC k B w1 v n) (hc : SChg S w1 w2) : IsC k B w2 v n := by
 obtain ⟨ad, cap, h1, h2, h3, h4⟩ := h
 exact ⟨ad, cap, h1, h2, h3, h4.schg hc⟩
theorem CZ.schg {S : Nat} {w1 w2 : World} {v : Value} {z : Int} (h : CZ w1 v z) (hc : SChg S w1 w2) : CZ w2 v z := by
 obtain ⟨s, h1, h2⟩ := h
 exact ⟨s, h1, h2.schg hc⟩
theorem IsC.slice {k : IntKind} {B n : Nat} {w : World} {v : Value} (h : IsC k B w v n) : ∃ ad cap, v = .slice ad (sz B n) cap := by
 obtain ⟨ad, cap, rfl, _⟩ := h
 exact ⟨ad, cap, rfl⟩
theorem IsC.oneCell {k : IntKind} {B n : Nat} {w : World} {v : Value} (h : IsC k B w v n) : v.oneCell' = true := by
 obtain ⟨ad, cap, rfl⟩ := h.slice
 rfl
theorem FrZd.parts {B0 : Nat} {w : World} {v : Value} {z : Int} (h : FrZd B0 w v z) : ∃ cells, v = .agg cells ∧ cells.size = 2 ∧ cells.all (·.oneCell') = true ∧ NoInt cells := by
 obtain ⟨s, rfl, hn⟩ := h
 obtain ⟨ad, cap, rfl⟩ := hn.slice
 exact ⟨_, rfl, rfl, all2 rfl rfl, noInt2 _ _ _ _⟩
theorem FrL.slice {e : TypeId} {k : IntKind} {B0 : Nat} {w : World} {v : Value} {xs : List Nat} (h : FrL e k B0 w v xs) : ∃ ad cap, v = .slice ad xs.length cap := by
 obtain ⟨ad, cap, rfl, _⟩ := h
 exact ⟨ad, cap, rfl⟩
theorem FrL.schg {S : Nat} {w1 w2 : World} {e : TypeId} {k : IntKind} {B0 : Nat} {v : Value} {xs : List Nat} (h : FrL e k B0 w1 v xs) (hc : SChg S w1 w2) (he : e = 88 ∨ e = 3) : FrL e k B0 w2 v xs := by
 obtain ⟨ad, cap, h1, h2, h3, h4⟩ := h
 exact ⟨ad, cap, h1, h2, h3, h4.schg hc he⟩
def FrI (B0 : Nat) (w : World) (v : Value) (b : Bool) (xs : List Nat) : Prop := ∃ s, v = .agg #[.bool b, s] ∧ FrL 88 .u64 B0 w s xs
theorem FrI.parts {B0 : Nat} {w : World} {v : Value} {b : Bool} {xs : List Nat} (h : FrI B0 w v b xs) : ∃ cells, v = .agg cells ∧ cells.size = 2 ∧ cells.all (·.oneCell') = true ∧ NoInt cells := by
 obtain ⟨s, rfl, hn⟩ := h
 obtain ⟨ad, cap, rfl⟩ := hn.slice
 exact ⟨_, rfl, rfl, all2 rfl rfl, noInt2 _ _ _ _⟩
theorem form_calls2 (b : Bool) (s : Value) (n : Nat) (w : World) (hs : IsN .i64 TK w s n) :
  Calls Try.prog 64 #[.bool b, s] w fun e w' => ∃ v', e = .returned v' ∧ FrZd w.heap.size w' v' (sgn b n) ∧ Ext w w' := by
 go_enter Try.func64, Try.ntmps64
 go_wp2_with fail
 obtain ⟨w1, hw1, e1, b1, s1⟩ := alloc1 w #[.bool false, .slice none 0 0] 34
 rw [← hw1]
 refine (rtrim_calls s n _ (hs.ext e1)).mono ?_
 rintro e w2 ⟨va, rfl, ha, hext⟩
 have hb := b1.ext hext
 have hn0 := @szT_zero n
 have Ha := Lib.hid ha
 obtain ⟨ad, cap, rfl, hl, hc, ho⟩ := ha
 have hc0 := hb.cell 0
 have hc1 := hb.cell 1
 have hf0 := hb.free 0
 have hf1 := hb.free 1
 go_wp2_with fail
 all_goals
  refine ret_box 4 34 w.heap.size 34 _ _ (by kernel_rfl) rfl ((hb.set 0 _).set 1 _) Try.underlying34 rfl (by kernel_rfl) rfl ?_
  refine ⟨_, rfl, ⟨.slice ad (dg TK n).length cap, ?_, ?_⟩, (e1.trans hext).step (Chg.trans (Chg.setCell _ w.heap.size 0 _) (Chg.setCell _ w.heap.size 1 _)) (Nat.le_refl _)⟩
  rotate_left
  ·rw [sgn_natAbs]
   exact (Ha.out.chg (Chg.trans (Chg.setCell _ w.heap.size 0 _) (Chg.setCell _ w.heap.size 1 _)) (by omega)).mono (by omega)
 all_goals
  have hd : (0 < (dg TK n).length) ↔ 0 < n := by unfold sz at hn0; omega
  simp_all [sgn_lt]
theorem zsmall2_calls (z : Int) (w : World) (h0 : -9223372036854775808 ≤ z) (h1 : z ≤ 9223372036854775807) :
  Calls Try.prog 59 #[.int .i64 z] w fun e w' => ∃ v', e = .returned v' ∧ FrZd w.heap.size w' v' z ∧ Ext w w' := by
 go_enter Try.func59, Try.ntmps59
 rcases (show 0 ≤ z ∨ z < 0 by omega) with h | h
 ·have hn := Lib.hid (show z = (z.natAbs : Int) by omega)
  have hz : sgn false z.natAbs = z := by simp only [sgn, if_false, Bool.false_eq_true]; omega
  have hb : z.natAbs ≤ 9223372036854775807 := by omega
  go_wp2_with fail
  obtain ⟨w1, hw1, e1, b1, s1⟩ := alloc1 w #[.bool false, .slice none 0 0] 34
  rw [← hw1]
  rw [show (#[Value.int .i64 z]) = #[.int .i64 (z.natAbs : Int)] by rw [← hn.out]]
  refine (rsmall_calls z.natAbs _ hb).mono ?_
  rintro e w2 ⟨v1, rfl, hs1, e2⟩
  go_wp2_with fail
  refine (form_calls2 false _ z.natAbs _ (hs1.isC.isN TK_gt (by have := dg_small_len hb; unfold sz; rw [LIM_eq]; omega))).mono ?_
  rw [hz]
  rintro e w3 ⟨v', rfl, hz, hext⟩
  have es2 := e2.size
  have e3 := (e1.trans e2).trans hext
  obtain ⟨s', rfl, hn⟩ := hz
  obtain ⟨ad, cap, rfl⟩ := hn.slice
  have Hn := Lib.hid hn
  clear hn
  have hb := (b1.ext e2).ext hext
  have hc0 := hb.cell 0
  have hc1 := hb.cell 1
  have hf0 := hb.free 0
  have hf1 := hb.free 1
  go_wp2
  refine ret_box 2 34 w.heap.size 34 _ _ (by kernel_rfl) rfl ((hb.set 0 _).set 1 _) Try.underlying34 rfl (by kernel_rfl) rfl ?_
  exact ⟨_, rfl, ⟨_, (by first | rfl | simp_all), (Hn.out.chg (Chg.trans (Chg.setCell _ w.heap.size 0 _) (Chg.setCell _ w.heap.size 1 _)) (by omega)).mono (by omega)⟩, (e3).step (Chg.trans (Chg.setCell _ w.heap.size 0 _) (Chg.setCell _ w.heap.size 1 _)) (by omega)⟩
 ·obtain ⟨m, hm⟩ : ∃ m : Nat, -(z + 1) = (m : Int) := ⟨(-(z + 1)).toNat, by omega⟩
  have hz : sgn true (m + 1) = z := by simp only [sgn, if_true]; omega
  have hb : m ≤ 9223372036854775807 := by omega
  have hs5 := dg_small_len hb
  have hs6 : sz TK (m + 1) ≤ 5 := by
   refine dg_len_le TK_gt ?_
   rw [TK_eq]
   have : (10000 : Nat) ^ 5 = 100000000000000000000 := by decide
   omega
  have hge : ¬ 0 ≤ z := by omega
  go_wp2_with fail
  obtain ⟨w1, hw1, e1, b1, s1⟩ := alloc1 w #[.bool false, .slice none 0 0] 34
  rw [← hw1]
  refine (rsmall_calls m _ hb).mono ?_
  rintro e w2 ⟨v1, rfl, hs1, e2⟩
  go_wp2_with fail
  have e3 := (Ext.refl w2).alloc (.cells #[.int .i64 1] 3)
  have hone := isN_one (k := .i64) (B := TK) w2 1 3 (by rw [TK_eq]; omega)
  refine (radd01_calls _ _ m 1 _ ((hs1.ext e3).isC.isN TK_gt (by unfold sz; rw [LIM_eq]; omega)) hone (by unfold sz; omega) (by rw [show sz TK 1 = 1 from rfl]; omega)).mono ?_
  rintro e w4 ⟨v2, rfl, hs2, e4⟩
  go_wp2_with fail
  refine (form_calls2 true _ (m + 1) _ (hs2.isC.isN TK_gt (by rw [LIM_eq]; omega))).mono ?_
  rw [hz]
  rintro e w5 ⟨v', rfl, hz, hext⟩
  have es2 := e2.size
  have es4 := (e3.trans e4).size
  have e6 := ((e1.trans e2).trans (e3.trans e4)).trans hext
  obtain ⟨s', rfl, hn⟩ := hz
  obtain ⟨ad, cap, rfl⟩ := hn.slice
  have Hn := Lib.hid hn
  clear hn
  have hb := (b1.ext (e2.trans (e3.trans e4))).ext hext
  have hc0 := hb.cell 0
  have hc1 := hb.cell 1
  have hf0 := hb.free 0
  have hf1 := hb.free 1
  go_wp2
  refine ret_box 2 34 w.heap.size 34 _ _ (by kernel_rfl) rfl ((hb.set 0 _).set 1 _) Try.underlying34 rfl (by kernel_rfl) rfl ?_
  exact ⟨_, rfl, ⟨_, (by first | rfl | simp_all), (Hn.out.chg (Chg.trans (Chg.setCell _ w.heap.size 0 _) (Chg.setCell _ w.heap.size 1 _)) (by omega)).mono (by omega)⟩, (e6).step (Chg.trans (Chg.setCell _ w.heap.size 0 _) (Chg.setCell _ w.heap.size 1 _)) (by omega)⟩
end Go.Proofs.Ytdmjgjcljbogiaa
