/-
 zint: of a word, comparison, sums, differences.
-/
import Derived.Test.YtdmjgjcljbogiaaIntA
namespace Go.Proofs.Ytdmjgjcljbogiaa
set_option maxRecDepth 100000
set_option maxHeartbeats 1000000
open Go.RowKit
set_option linter.unusedVariables false
set_option linter.unusedSimpArgs false
theorem szZ_small {n : Nat} (h : n < W) : sz W n ≤ 1 := dg_len_le W_gt (by simpa using h)
theorem isN_one {k : IntKind} {B : Nat} (w : World) (c : Nat) (e : TypeId) (hc : c < B) : IsN k B (w.alloc (.cells #[.int k (c : Int)] e)) (.slice (some ⟨w.heap.size, 0, none⟩) 1 1) c :=
 ⟨[c], ⟨_, 1, rfl, Nat.le_refl _, by omega, Rd.new1 w k c e⟩, by rw [LIM_eq]; simp, fun y hy => (by simpa using hy : y = c) ▸ hc, by simp [val]⟩
theorem zof_calls (z : Int) (w : World) (h0 : -9223372036854775808 ≤ z) (h1 : z ≤ 9223372036854775807) :
  Calls Try.prog 70 #[.int .i64 z] w fun e w' => ∃ v', e = .returned v' ∧ FrZ w.heap.size w' v' z ∧ Ext w w' := by
 go_enter Try.func70, Try.ntmps70
 have h2 := W_eq
 rcases (show z < 0 ∨ 0 ≤ z by omega) with h | h
 ·have hn : (-(z + 1) + 1) = (z.natAbs : Int) := by omega
  have hlt : z.natAbs < W := by omega
  have hz : sgn true z.natAbs = z := by simp only [sgn, if_true]; omega
  go_wp2_with fail
  obtain ⟨w1, hw1, e1, b1, s1⟩ := alloc1 w #[.bool false, .slice none 0 0] 24
  rw [← hw1, ← s1]
  refine (make_calls true _ z.natAbs _ (isN_one w1 z.natAbs 88 hlt)).mono ?_
  rw [hz]
  rintro e w2 ⟨v', rfl, hz, hext⟩
  have s2 := alloc_size w1 (.cells #[.int .u64 (z.natAbs : Int)] 88)
  have e2 := ((Ext.refl w1).alloc (.cells #[.int .u64 (z.natAbs : Int)] 88)).trans hext
  obtain ⟨s', rfl, hn⟩ := hz
  obtain ⟨ad, cap, rfl⟩ := hn.slice
  have Hn := Lib.hid hn
  clear hn
  have hb := b1.ext e2
  have hc0 := hb.cell 0
  have hc1 := hb.cell 1
  have hf0 := hb.free 0
  have hf1 := hb.free 1
  go_wp2
  refine ret_box 2 24 w.heap.size 24 _ _ (by kernel_rfl) rfl ((hb.set 0 _).set 1 _) Try.underlying24 rfl (by kernel_rfl) rfl ?_
  exact ⟨_, rfl, ⟨_, (by first | rfl | simp_all), (Hn.out.chg (Chg.trans (Chg.setCell _ w.heap.size 0 _) (Chg.setCell _ w.heap.size 1 _)) (by omega)).mono (by omega)⟩, (e1.trans e2).step (Chg.trans (Chg.setCell _ w.heap.size 0 _) (Chg.setCell _ w.heap.size 1 _)) (by omega)⟩
 ·have hn := Lib.hid (show z = (z.natAbs : Int) by omega)
  have hlt : z.natAbs < W := by omega
  have hz : sgn false z.natAbs = z := by simp only [sgn, if_false, Bool.false_eq_true]; omega
  have hlt2 : z < 18446744073709551616 := by omega
  clear h2
  go_wp2_with fail
  rw [show (Value.int .u64 z) = .int .u64 (z.natAbs : Int) by rw [← hn.out]]
  obtain ⟨w1, hw1, e1, b1, s1⟩ := alloc1 w #[.bool false, .slice none 0 0] 24
  rw [← hw1, ← s1]
  refine (make_calls false _ z.natAbs _ (isN_one w1 z.natAbs 88 hlt)).mono ?_
  rw [hz]
  rintro e w2 ⟨v', rfl, hz, hext⟩
  have s2 := alloc_size w1 (.cells #[.int .u64 (z.natAbs : Int)] 88)
  have e2 := ((Ext.refl w1).alloc (.cells #[.int .u64 (z.natAbs : Int)] 88)).trans hext
  obtain ⟨s', rfl, hn⟩ := hz
  obtain ⟨ad, cap, rfl⟩ := hn.slice
  have Hn := Lib.hid hn
  clear hn
  have hb := b1.ext e2
  have hc0 := hb.cell 0
  have hc1 := hb.cell 1
  have hf0 := hb.free 0
  have hf1 := hb.free 1
  go_wp2
  refine ret_box 2 24 w.heap.size 24 _ _ (by kernel_rfl) rfl ((hb.set 0 _).set 1 _) Try.underlying24 rfl (by kernel_rfl) rfl ?_
  exact ⟨_, rfl, ⟨_, (by first | rfl | simp_all), (Hn.out.chg (Chg.trans (Chg.setCell _ w.heap.size 0 _) (Chg.setCell _ w.heap.size 1 _)) (by omega)).mono (by omega)⟩, (e1.trans e2).step (Chg.trans (Chg.setCell _ w.heap.size 0 _) (Chg.setCell _ w.heap.size 1 _)) (by omega)⟩
theorem zadd_calls (v u : Value) (x y : Int) (w : World) (hv : IsZ w v x) (hu : IsZ w u y) (hsx : szZ x ≤ 68719476736) (hsy : szZ y ≤ 68719476736) :
  Calls Try.prog 80 #[v, u] w fun e w' => ∃ v', e = .returned v' ∧ FrZ w.heap.size w' v' (x + y) ∧ Ext w w' := by
 obtain ⟨b, s, n, rfl, hs, rfl⟩ := hv
 obtain ⟨c, t, m, rfl, ht, rfl⟩ := hu
 unfold szZ at hsx hsy
 rw [sgn_natAbs] at hsx hsy
 go_enter Try.func80, Try.ntmps80
 by_cases hbc : b = c
 ·subst hbc
  go_wp2_with fail
  obtain ⟨w1, hw1, e1, b1, b2, b3, s1⟩ := alloc3 w #[.bool b, s] #[.bool b, t] #[.bool false, .slice none 0 0] 24 24 24
  rw [← hw1]
  clear hw1
  refine wp_region_puts [⟨8, (w.heap.size + 2), 24, PP.frZ (sgn b (n + m))⟩] [PP.val (.pointer (some ⟨w.heap.size, 0, none⟩)), PP.val (.bool b), PP.val (.pointer (some ⟨w.heap.size, 1, none⟩)), PP.val (s), PP.val (.pointer (some ⟨(w.heap.size + 1), 1, none⟩)), PP.val (t), PP.frN 88 .u64 W (n + m), PP.frZ (sgn b (n + m)), PP.any] [] [8, 7, 6, 5, 4, 3, 2, 1, 0]
   (by kernel_rfl) (by kernel_rfl) (fun f => (by simp only [fillR, fillL, List.setIfInBounds_toArray, List.set_cons_succ, List.set_cons_zero, Nat.reduceAdd]; rfl)) ?_ ?_ ?_ ?_ ?_
  ·intro x hx; simp only [List.mem_singleton] at hx; subst hx; exact ⟨by show (w.heap.size + 2) < w1.heap.size; omega, rfl⟩
  ·intro x hx; simp only [List.mem_singleton] at hx; subst hx; rfl
  ·intro x hx y hy h; simp only [List.mem_singleton] at hx hy; subst hx hy; exact absurd rfl h
  ·refine ⟨?o0, ?o1, ?o2, ?o3, ?o4, ?o5, ?o6, ?o7, ?o8, trivial⟩
   case o0 =>
    intro f w2 hG hp hl
    have hE : Ext w1 w2 := hG
    have hS := hE.size
    simp only [OpGoal]
    go_simp
    exact ⟨_, rfl, Ext.refl _, rfl⟩
   case o1 =>
    intro f w2 hG hp hl
    have hE : Ext w1 w2 := hG
    have hS := hE.size
    have q14 : f 0 = .pointer (some ⟨w.heap.size, 0, none⟩) := tellV hp 0 0 rfl rfl (fun h => by cases h)
    have hcell := (b1.ext hE).cell 0
    simp only [OpGoal]
    go_simp
    exact ⟨_, rfl, Ext.refl _, rfl⟩
   case o2 =>
    intro f w2 hG hp hl
    have hE : Ext w1 w2 := hG
    have hS := hE.size
    simp only [OpGoal]
    go_simp
    exact ⟨_, rfl, Ext.refl _, rfl⟩
   case o3 =>
    intro f w2 hG hp hl
    have hE : Ext w1 w2 := hG
    have hS := hE.size
    have q16 : f 2 = .pointer (some ⟨w.heap.size, 1, none⟩) := tellV hp 0 2 rfl rfl (fun h => by cases h)
    have hcell := (b1.ext hE).cell 1
    simp only [OpGoal]
    go_simp
    exact ⟨_, rfl, Ext.refl _, rfl⟩
   case o4 =>
    intro f w2 hG hp hl
    have hE : Ext w1 w2 := hG
    have hS := hE.size
    simp only [OpGoal]
    go_simp
    exact ⟨_, rfl, Ext.refl _, rfl⟩
   case o5 =>
    intro f w2 hG hp hl
    have hE : Ext w1 w2 := hG
    have hS := hE.size
    have q18 : f 4 = .pointer (some ⟨(w.heap.size + 1), 1, none⟩) := tellV hp 0 4 rfl rfl (fun h => by cases h)
    have hcell := (b2.ext hE).cell 1
    simp only [OpGoal]
    go_simp
    exact ⟨_, rfl, Ext.refl _, rfl⟩
   case o6 =>
    intro f w2 hG hp hl
    have hE : Ext w1 w2 := hG
    have hS := hE.size
    have q17 : f 3 = s := tellV hp 0 3 rfl rfl (fun h => by cases h)
    have q19 : f 5 = t := tellV hp 1 5 rfl rfl (fun h => by cases h)
    change OpGoal _ _ _ f w2 Ext _
    refine og_call (P := Try.prog) _ _ _ #[f 3, f 5] Try.func109 (by kernel_rfl) (by kernel_rfl) rfl rfl (by kernel_rfl) ?_
    rw [q17, q19]
    refine (add_calls _ _ n m _ (hs.ext (e1.trans hE)) (ht.ext (e1.trans hE))).mono ?_
    rintro e w' ⟨v', rfl, h1, h2⟩
    exact ⟨v', rfl, h2, h1.mono hS⟩
   case o7 =>
    intro f w2 hG hp hl
    have hE : Ext w1 w2 := hG
    have hS := hE.size
    have q15 : f 1 = .bool b := tellV hp 0 1 rfl rfl (fun h => by cases h)
    have q20 := tellV hp 1 6 rfl rfl (fun _ => hE)
    change OpGoal _ _ _ f w2 Ext _
    refine og_call (P := Try.prog) _ _ _ #[f 1, f 6] Try.func63 (by kernel_rfl) (by kernel_rfl) rfl rfl (by kernel_rfl) ?_
    rw [q15]
    refine (make_calls _ _ _ _ (q20.isC.isN W_gt (Nat.le_trans (sz_add n m) (by rw [LIM_eq]; omega)))).mono ?_
    rintro e w' ⟨v', rfl, h1, h2⟩
    exact ⟨v', rfl, h2, h1.mono hS⟩
   case o8 =>
    intro f w2 hG hp hl
    have hE : Ext w1 w2 := hG
    have hS := hE.size
    have q21 := tellV hp 0 7 rfl rfl (fun _ => hE)
    intro hg0
    change OpGoal _ _ _ f w2 (Chg _) _
    obtain ⟨s', hv, hn⟩ := q21
    exact og_store (P := Try.prog) _ _ _ (w.heap.size + 2) _ _ _ (PP.frZ _ : PP _).p rfl rfl rfl hv (show Bx 24 w2 _ _ from hg0.trans b3) (by kernel_rfl) rfl (all2 rfl hn.oneCell) (fun w' h => ⟨s', rfl, hn.chg h (by omega)⟩)
  ·intro f w2 hG hp
   obtain ⟨cs0, hbx0, hz0⟩ : ∃ cs, Bx 24 w2 (w.heap.size + 2) cs ∧ (PP.frZ (sgn b (n + m)) : PP w1.heap.size).p (.agg cs) w2 := endS hp 8 (by decide)
   clear hp
   have hz1 := hz0.mono (show w.heap.size ≤ _ by omega)
   obtain ⟨s', hv, hn⟩ := hz0
   cases hv
   go_wp2
   refine ret_box 4 24 (w.heap.size + 2) 24 _ _ (by kernel_rfl) rfl hbx0 Try.underlying24 rfl (by kernel_rfl) rfl ?_
   rw [show sgn b n + sgn b m = sgn b (n + m) by cases b <;> simp [sgn] <;> omega]
   exact ⟨_, rfl, hz1, e1.stepS hG (by simp)⟩
 ·have hc : c = !b := by cases b <;> cases c <;> simp_all
  have hdec : (b == !b) = false := by cases b <;> rfl
  subst hc
  rcases (show m ≤ n ∨ n < m by omega) with hle | hlt
  ·go_wp2_with fail
   obtain ⟨w1, hw1, e1, b1, b2, b3, s1⟩ := alloc3 w #[.bool b, s] #[.bool !b, t] #[.bool false, .slice none 0 0] 24 24 24
   rw [← hw1]
   clear hw1
   refine (sub_yes _ _ n m _ (hs.ext e1) (ht.ext e1) hle).mono ?_
   rintro e w2 ⟨vd, rfl, hd, hext⟩
   have hcx := (b1.ext hext).cell 0
   go_wp2_with fail
   refine (make_calls b vd (n - m) _ (hd.isC.isN W_gt (Nat.le_trans (sz_mono (show n - m ≤ n by omega)) (by rw [LIM_eq]; omega)))).mono ?_
   rintro e w3 ⟨v', rfl, hz, hext2⟩
   have es := hext.size
   obtain ⟨s', rfl, hn⟩ := hz
   obtain ⟨ad, cap, rfl⟩ := hn.slice
   have Hn := Lib.hid hn
   clear hn
   have hb := b3.ext (hext.trans hext2)
   have hc0 := hb.cell 0
   have hc1 := hb.cell 1
   have hf0 := hb.free 0
   have hf1 := hb.free 1
   go_wp2
   refine ret_box 4 24 (w.heap.size + 2) 24 _ _ (by kernel_rfl) rfl ((hb.set 0 _).set 1 _) Try.underlying24 rfl (by kernel_rfl) rfl ?_
   rw [show sgn b n + sgn (!b) m = sgn b (n - m) by cases b <;> simp [sgn] <;> omega]
   exact ⟨_, rfl, ⟨_, (by first | rfl | simp_all), (Hn.out.chg (Chg.trans (Chg.setCell _ (w.heap.size + 2) 0 _) (Chg.setCell _ (w.heap.size + 2) 1 _)) (by omega)).mono (by omega)⟩, ((e1.trans hext).trans hext2).step (Chg.trans (Chg.setCell _ (w.heap.size + 2) 0 _) (Chg.setCell _ (w.heap.size + 2) 1 _)) (by omega)⟩
  ·go_wp2_with fail
   obtain ⟨w1, hw1, e1, b1, b2, b3, s1⟩ := alloc3 w #[.bool b, s] #[.bool !b, t] #[.bool false, .slice none 0 0] 24 24 24
   rw [← hw1]
   clear hw1
   refine (sub_no _ _ n m _ (hs.ext e1) (ht.ext e1) hlt).mono ?_
   rintro e w2 ⟨rfl, hext⟩
   have hcx := (b1.ext hext).cell 1
   have hcy := (b2.ext hext).cell 1
   go_wp2_with fail
   refine (sub_yes _ _ m n _ (ht.ext (e1.trans hext)) (hs.ext (e1.trans hext)) (by omega)).mono ?_
   rintro e w3 ⟨vd, rfl, hd, hext2⟩
   have hcy2 := (b2.ext (hext.trans hext2)).cell 0
   go_wp2_with fail
   refine (make_calls (!b) vd (m - n) _ (hd.isC.isN W_gt (Nat.le_trans (sz_mono (show m - n ≤ m by omega)) (by rw [LIM_eq]; omega)))).mono ?_
   rintro e w4 ⟨v', rfl, hz, hext3⟩
   have es := hext.size
   have es2 := hext2.size
   obtain ⟨s', rfl, hn⟩ := hz
   obtain ⟨ad, cap, rfl⟩ := hn.slice
   have Hn := Lib.hid hn
   clear hn
   have hb := b3.ext ((hext.trans hext2).trans hext3)
   have hc0 := hb.cell 0
   have hc1 := hb.cell 1
   have hf0 := hb.free 0
   have hf1 := hb.free 1
   go_wp2
   refine ret_box 4 24 (w.heap.size + 2) 24 _ _ (by kernel_rfl) rfl ((hb.set 0 _).set 1 _) Try.underlying24 rfl (by kernel_rfl) rfl ?_
   rw [show sgn b n + sgn (!b) m = sgn (!b) (m - n) by cases b <;> simp [sgn] <;> omega]
   exact ⟨_, rfl, ⟨_, (by first | rfl | simp_all), (Hn.out.chg (Chg.trans (Chg.setCell _ (w.heap.size + 2) 0 _) (Chg.setCell _ (w.heap.size + 2) 1 _)) (by omega)).mono (by omega)⟩, (((e1.trans hext).trans hext2).trans hext3).step (Chg.trans (Chg.setCell _ (w.heap.size + 2) 0 _) (Chg.setCell _ (w.heap.size + 2) 1 _)) (by omega)⟩
end Go.Proofs.Ytdmjgjcljbogiaa
