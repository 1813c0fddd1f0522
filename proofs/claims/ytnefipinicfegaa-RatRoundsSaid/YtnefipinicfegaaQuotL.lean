/-
  The law RatQuotients returns true, whatever its two fractions are.
-/
import Derived.Test.YtnefipinicfegaaOpen
namespace Go.Proofs.Ytnefipinicfegaa
open Go.RowKit

set_option maxRecDepth 100000 in
set_option maxHeartbeats 1000000 in
theorem FrQd.opn {B0 : Nat} {w : World} {v : Value} {q : Rat} (h : FrQd B0 w v q) : ∃ b ad l cap ad2 l2 cap2, v = .agg #[.bool b, .slice ad l cap, .slice ad2 l2 cap2] ∧ FrQd B0 w (.agg #[.bool b, .slice ad l cap, .slice ad2 l2 cap2]) q := by
  have h' := h
  obtain ⟨s, t, rfl, hn, hm⟩ := h
  obtain ⟨ad, cap, rfl⟩ := hn.slice
  obtain ⟨ad2, cap2, rfl⟩ := hm.slice
  exact ⟨_, _, _, _, _, _, _, rfl, h'⟩
set_option maxRecDepth 100000 in
set_option maxHeartbeats 1000000 in
theorem RawQ.opn2 {w : World} {v : Value} {b : Bool} {xs ys : List Nat} (h : RawQ w v b xs ys) : ∃ ad n cap ad2 m cap2, n = xs.length ∧ m = ys.length ∧ v = .agg #[.bool b, .slice ad n cap, .slice ad2 m cap2] := by
  obtain ⟨s, t, rfl, ⟨ad, cap, rfl, _⟩, ⟨ad2, cap2, rfl, _⟩⟩ := h
  exact ⟨_, _, _, _, _, _, rfl, rfl, rfl⟩
set_option maxRecDepth 100000 in
set_option maxHeartbeats 1000000 in
theorem RawQ.opn {w : World} {v : Value} {b : Bool} {xs ys : List Nat} (h : RawQ w v b xs ys) : ∃ ad cap ad2 cap2, v = .agg #[.bool b, .slice ad xs.length cap, .slice ad2 ys.length cap2] := by
  obtain ⟨s, t, rfl, ⟨ad, cap, rfl, _⟩, ⟨ad2, cap2, rfl, _⟩⟩ := h
  exact ⟨_, _, _, _, rfl⟩
set_option maxRecDepth 100000 in
set_option maxHeartbeats 1000000 in
theorem len_fine {ys : List Nat} {w : World} {s : Value} (h : IsL .u64 w s ys) : ys.length ≤ 9223372036854775807 := by
  obtain ⟨ad, cap, _, h1, h2, _⟩ := h
  omega

set_option maxRecDepth 100000 in
set_option maxHeartbeats 1000000 in
/-- Where the fractions are greater than is looked at, or all is looked at. -/
theorem great_split (n m : Nat) : decide (12 < n ∨ 12 < m) = true ∨ (decide (12 < n ∨ 12 < m) = false ∧ n ≤ 12 ∧ m ≤ 12) := by
  by_cases h : 12 < n ∨ 12 < m
  · exact .inl (decide_eq_true h)
  · exact .inr ⟨decide_eq_false h, by omega, by omega⟩

set_option maxRecDepth 100000 in
set_option maxHeartbeats 4000000 in
theorem ratQuotients_calls (v u : Value) (b c : Bool) (xs ys xs2 ys2 : List Nat) (w : World) (hv : RawQ w v b xs ys) (hu : RawQ w u c xs2 ys2) (dx : Dig W xs) (dy : Dig W ys) (dx2 : Dig W xs2) (dy2 : Dig W ys2)
    (hl1 : xs.length + ys.length ≤ 9223372036854775807) (hl2 : xs2.length + ys2.length ≤ 9223372036854775807) :
    Calls Try.prog 6 #[v, u] w fun e w' => e = .returned (.bool true) ∧ Ext w w' := by
  have Hv := Lib.hid hv
  have Hu := Lib.hid hu
  obtain ⟨ad, n1, cap, ad2, n2, cap2, hn1, hn2, rfl⟩ := hv.opn2
  obtain ⟨bd, n3, dap, bd2, n4, dap2, hn3, hn4, rfl⟩ := hu.opn2
  have Hgs := Lib.hid (great_split (n1 + n2) (n3 + n4))
  clear hv hu
  have Hn1 := Lib.hid hn1
  have Hn2 := Lib.hid hn2
  have Hn3 := Lib.hid hn3
  have Hn4 := Lib.hid hn4
  clear hn1 hn2 hn3 hn4
  go_enter Try.func6, Try.ntmps6
  obtain ⟨w1, hw1, e1, b1, b2, s1⟩ := alloc2 w #[.bool b, .slice ad n1 cap, .slice ad2 n2 cap2] #[.bool c, .slice bd n3 dap, .slice bd2 n4 dap2] 28 28
  go_wp2_with fail
  rw [← hw1]
  refine (speaks_calls _).mono ?_
  rintro e w2 ⟨rfl, e2⟩
  have B1 := b1.ext e2
  have B2 := b2.ext e2
  have E := e1.trans e2
  have hc0 := B1.cell 0
  have hc1 := B1.cell 1
  have hc2 := B1.cell 2
  have hd0 := B2.cell 0
  have hd1 := B2.cell 1
  have hd2 := B2.cell 2
  go_wp2_with fail
  refine (great_calls _ _ b c xs ys xs2 ys2 _ (Hv.out.ext E) (Hu.out.ext E) (by have := Hn1.out; have := Hn2.out; omega) (by have := Hn3.out; have := Hn4.out; omega)).mono ?_
  rw [← Hn1.out, ← Hn2.out, ← Hn3.out, ← Hn4.out]
  rintro e w3 ⟨rfl, e3⟩
  rcases Hgs.out with hg | ⟨hg, hk1, hk2⟩
  · rw [hg]
    go_wp2
    go_ret
    exact ⟨rfl, E.trans e3⟩
  · rw [hg]
    have E3 := E.trans e3
    have C1 := B1.ext e3
    have C2 := B2.ext e3
    have X1 : xs.length ≤ 12 := by rw [← Hn1.out]; omega
    have X2 : ys.length ≤ 12 := by rw [← Hn2.out]; omega
    have X3 : xs2.length ≤ 12 := by rw [← Hn3.out]; omega
    have X4 : ys2.length ≤ 12 := by rw [← Hn4.out]; omega
    have lim : (12 : Nat) ≤ LIM := by rw [LIM_eq]; omega
    obtain ⟨x, hx⟩ : ∃ x, x = rawR b xs ys := ⟨_, rfl⟩
    obtain ⟨y, hy⟩ : ∃ y, y = rawR c xs2 ys2 := ⟨_, rfl⟩
    have RX := Lib.hid (show ∀ wz vz, RawQ wz vz b xs ys → IsR wz vz x 12 from fun wz vz h => by rw [hx]; exact h.isR dx dy 12 X1 X2 (by omega) lim)
    have RY := Lib.hid (show ∀ wz vz, RawQ wz vz c xs2 ys2 → IsR wz vz y 12 from fun wz vz h => by rw [hy]; exact h.isR dx2 dy2 12 X3 X4 (by omega) lim)
    have SX := Lib.hid (rawR_szD (b := b) dx dy 12 X1 X2 (by omega))
    have SY := Lib.hid (rawR_szD (b := c) dx2 dy2 12 X3 X4 (by omega))
    have Hx := Lib.hid hx
    have Hy := Lib.hid hy
    have hxD : szD x ≤ 60 := by rw [Hx.out]; exact SX.out.2.2
    have hyD : szD y ≤ 60 := by rw [Hy.out]; exact SY.out.2.2
    clear hx hy hc0 hc1 hc2 hd0 hd1 hd2
    by_cases hy0 : y = 0
    · have hys : y.num.sign = 0 := by rw [hy0]; rfl
      have Hy0 := Lib.hid hy0
      clear hy0
      go_wp2_with fail
      refine wp_region_als [⟨8, 28, 3, #[.bool false, .slice none 0 0, .slice none 0 0]⟩] [⟨9, ⟨8, 28, 3, #[.bool false, .slice none 0 0, .slice none 0 0]⟩, PA.val (.agg #[.bool false, .slice none 0 0, .slice none 0 0])⟩] [PA.val (.agg #[.bool b, .slice ad n1 cap, .slice ad2 n2 cap2]), PA.frR b xs ys, PA.val (.agg #[.bool c, .slice bd n3 dap, .slice bd2 n4 dap2]), PA.frR c xs2 ys2, PA.val (.tuple #[.agg #[.bool false, .slice none 0 0, .slice none 0 0], .int .i64 3]), PA.val (.tuple #[.agg #[.bool false, .slice none 0 0, .slice none 0 0], .int .i64 3]), PA.val (.agg #[.bool false, .slice none 0 0, .slice none 0 0]), PA.val (.int .i64 3), PA.any, PA.any, PA.val (.int .i64 3)]
        (by kernel_rfl) (by kernel_rfl) (fun f => (by simp only [fillR, fillL, List.setIfInBounds_toArray, List.set_cons_succ, List.set_cons_zero, Nat.reduceAdd]; rfl)) ?_ ?_ ?_ ?_ ?_
      · intro x hx; simp only [List.mem_cons, List.not_mem_nil, or_false] at hx; rcases hx with rfl
        · exact ⟨rfl, rfl, by decide, by decide, rfl, noInt3 _ _ _ _ _ _ _⟩
      · intro x hx; simp only [List.mem_cons, List.not_mem_nil, or_false] at hx; rcases hx with rfl <;> exact ⟨rfl, rfl, by simp⟩
      · intro x hx y hy h; simp only [List.mem_cons, List.not_mem_nil, or_false] at hx hy; rcases hx with rfl <;> rcases hy with rfl
        · exact absurd rfl h
      · refine ⟨?o0, ?o1, ?o2, ?o3, ?o4, ?o5, ?o6, ?o7, ?o8, ?o9, ?o10, trivial⟩
        case o0 =>
          intro f w4 hE hp
          have hS := hE.size
          change OpGoal _ _ _ f w4 Ext _
          exact og_load (P := Try.prog) _ _ w.heap.size _ _ _ rfl rfl rfl (C1.ext hE) Try.underlying28 rfl (by kernel_rfl) rfl
        case o1 =>
          intro f w4 hE hp
          have hS := hE.size
          have q14 : f 0 = .agg #[.bool b, .slice ad n1 cap, .slice ad2 n2 cap2] := tellA hp 0 0 rfl rfl rfl
          change OpGoal _ _ _ f w4 Ext _
          refine og_call (P := Try.prog) _ _ _ #[f 0] Try.func27 (by kernel_rfl) (by kernel_rfl) rfl rfl (by kernel_rfl) ?_
          rw [q14]
          refine (rqcopy3_calls _ b xs ys _ (Hv.out.ext (E3.trans hE)) (by omega) (by omega)).mono ?_
          rintro e w' ⟨v', rfl, h1, h2⟩
          exact ⟨v', rfl, h2, h1.mono hS⟩
        case o2 =>
          intro f w4 hE hp
          have hS := hE.size
          change OpGoal _ _ _ f w4 Ext _
          exact og_load (P := Try.prog) _ _ (w.heap.size + 1) _ _ _ rfl rfl rfl (C2.ext hE) Try.underlying28 rfl (by kernel_rfl) rfl
        case o3 =>
          intro f w4 hE hp
          have hS := hE.size
          have q16 : f 2 = .agg #[.bool c, .slice bd n3 dap, .slice bd2 n4 dap2] := tellA hp 0 2 rfl rfl rfl
          change OpGoal _ _ _ f w4 Ext _
          refine og_call (P := Try.prog) _ _ _ #[f 2] Try.func27 (by kernel_rfl) (by kernel_rfl) rfl rfl (by kernel_rfl) ?_
          rw [q16]
          refine (rqcopy3_calls _ c xs2 ys2 _ (Hu.out.ext (E3.trans hE)) (by omega) (by omega)).mono ?_
          rintro e w' ⟨v', rfl, h1, h2⟩
          exact ⟨v', rfl, h2, h1.mono hS⟩
        case o4 =>
          intro f w4 hE hp
          have hS := hE.size
          have q15 := tellA hp 0 1 rfl rfl rfl
          have q17 := tellA hp 1 3 rfl rfl rfl
          change OpGoal _ _ _ f w4 Ext _
          refine og_call (P := Try.prog) _ _ _ #[f 1, f 3] Try.func38 (by kernel_rfl) (by kernel_rfl) rfl rfl (by kernel_rfl) ?_
          refine (rdiv_zero _ _ x 12 12 _ (RX.out _ _ (FrR.raw q15)) (Hy0.out ▸ RY.out _ _ (FrR.raw q17)) (by omega)).mono ?_
          rintro e w' ⟨rfl, h2⟩
          exact ⟨_, rfl, h2, rfl⟩
        case o5 =>
          intro f w4 hE hp
          have hS := hE.size
          have q18 : f 4 = .tuple #[.agg #[.bool false, .slice none 0 0, .slice none 0 0], .int .i64 3] := tellA hp 0 4 rfl rfl rfl
          change OpGoal _ _ _ f w4 Ext _
          exact ⟨_, rfl, Ext.refl _, q18⟩
        case o6 =>
          intro f w4 hE hp
          have hS := hE.size
          have q13 : f 5 = .tuple #[.agg #[.bool false, .slice none 0 0, .slice none 0 0], .int .i64 3] := tellA hp 0 5 rfl rfl rfl
          change OpGoal _ _ _ f w4 Ext _
          simp only [OpGoal]
          go_simp
          exact ⟨_, rfl, Ext.refl _, rfl⟩
        case o7 =>
          intro f w4 hE hp
          have hS := hE.size
          have q13 : f 5 = .tuple #[.agg #[.bool false, .slice none 0 0, .slice none 0 0], .int .i64 3] := tellA hp 0 5 rfl rfl rfl
          change OpGoal _ _ _ f w4 Ext _
          simp only [OpGoal]
          go_simp
          exact ⟨_, rfl, Ext.refl _, rfl⟩
        case o8 =>
          intro f w4 hE hp
          have hS := hE.size
          change OpGoal _ _ _ f w4 (fun a b => b = a.alloc _) _
          exact og_alloc (P := Try.prog) _ _ (.agg #[.bool false, .slice none 0 0, .slice none 0 0]) rfl rfl (by kernel_rfl) rfl
        case o9 =>
          intro f w4 hE hp
          have hS := hE.size
          have q19 : f 6 = .agg #[.bool false, .slice none 0 0, .slice none 0 0] := tellA hp 1 6 rfl rfl rfl
          intro g old hfa hSg hbx hsz hno
          change OpGoal _ _ _ f w4 (Chg g) _
          exact og_storeA (P := Try.prog) (PA.val (.agg #[.bool false, .slice none 0 0, .slice none 0 0])) 3 _ _ _ g _ old _ rfl rfl hfa q19 hbx (by kernel_rfl) hsz rfl (all3 rfl rfl rfl) hSg (show 28 ≠ 79 by decide) (show 28 ≠ 3 by decide) hno (noInt3 _ _ _ _ _ _ _) rfl
        case o10 =>
          intro f w4 hE hp
          have hS := hE.size
          have q20 : f 7 = .int .i64 3 := tellA hp 0 7 rfl rfl rfl
          change OpGoal _ _ _ f w4 Ext _
          simp only [OpGoal]
          go_simp
          exact ⟨_, rfl, Ext.refl _, rfl⟩
      · intro f w4 hE hp hal
        obtain ⟨ga5, ca5, fa5, la5, ba5, na5, pa5⟩ := hal ⟨8, 28, 3, #[.bool false, .slice none 0 0, .slice none 0 0]⟩ (by simp) (by decide)
        dsimp only at fa5 la5 ba5 na5
        have za5 := pa5 ⟨9, ⟨8, 28, 3, #[.bool false, .slice none 0 0, .slice none 0 0]⟩, PA.val (.agg #[.bool false, .slice none 0 0, .slice none 0 0])⟩ (by simp) (by show 9 < 11; decide) rfl rfl
        clear pa5
        have q6 : f 10 = .int .i64 3 := endA hp 10 (by decide) rfl rfl
        try simp only [q6]
        clear hp hal
        cases za5
        have D2 := C2.ext hE
        have hd0 := D2.cell 0
        have hd1 := D2.cell 1
        have hd2 := D2.cell 2
        go_wp2_with fail
        refine (rqof3_calls _ _ _ _ ((Hu.out.ext (E3.trans hE)).isQ dx2 dy2 (by rw [LIM_eq]; omega) (by rw [LIM_eq]; omega)) (by have := SY.out.1; omega) (by have := SY.out.2.1; omega)).mono ?_
        rw [show mkRat (rawN c xs2) (rawD ys2) = y from Hy.out.symm]
        rintro e w5 ⟨v5, rfl, q5, e5⟩
        obtain ⟨b5, ad5, l5, cap5, bd5, m5, dap5, rfl, q5⟩ := q5.opn
        obtain ⟨w6, hw6, e6, b6, s6⟩ := alloc1 w5 #[.bool b5, .slice ad5 l5 cap5, .slice bd5 m5 dap5] 40
        have D5 := ba5.ext (e5.trans e6)
        have hk0 := b6.cell 0
        have hk1 := b6.cell 1
        have hk2 := b6.cell 2
        rw [hw6] at hk0 hk1 hk2
        go_wp2_with fail
        rw [← hw6]
        clear hk0 hk1 hk2 hd0 hd1 hd2
        refine (rqsign3_calls _ y _ (q5.cq.ext e6)).mono ?_
        rintro e w7 ⟨rfl, e7⟩
        have D7 := D5.ext e7
        have hk0 := D7.cell 0
        have hk1 := D7.cell 1
        have hk2 := D7.cell 2
        go_wp2_with fail
        refine (rqsame3_calls _ _ _ _ _ _ _ _ _ (zeroQ.raw w7) (zeroQ.raw w7)).mono ?_
        rintro e w8 ⟨rfl, e8⟩
        go_wp2
        go_ret
        exact ⟨by simp, (E3.trans hE).trans (((e5.trans e6).trans e7).trans e8)⟩
    · have hys : ¬ y.num.sign = 0 := by
        have h1 := sign_cases y.num
        have h2 : y.num ≠ 0 := fun h => hy0 (Rat.num_eq_zero.1 h)
        omega
      have Hy0 := Lib.hid hy0
      clear hy0
      have hqD := szD_div hxD hyD Hy0.out
      go_wp2_with fail
      refine wp_region_als [⟨8, 28, 3, #[.bool false, .slice none 0 0, .slice none 0 0]⟩] [⟨9, ⟨8, 28, 3, #[.bool false, .slice none 0 0, .slice none 0 0]⟩, PA.frQ (x / y)⟩] [PA.val (.agg #[.bool b, .slice ad n1 cap, .slice ad2 n2 cap2]), PA.frR b xs ys, PA.val (.agg #[.bool c, .slice bd n3 dap, .slice bd2 n4 dap2]), PA.frR c xs2 ys2, PA.tupQ (x / y), PA.tupQ (x / y), PA.frQ (x / y), PA.val (.int .i64 0), PA.any, PA.any, PA.val (.int .i64 0)]
        (by kernel_rfl) (by kernel_rfl) (fun f => (by simp only [fillR, fillL, List.setIfInBounds_toArray, List.set_cons_succ, List.set_cons_zero, Nat.reduceAdd]; rfl)) ?_ ?_ ?_ ?_ ?_
      · intro x hx; simp only [List.mem_cons, List.not_mem_nil, or_false] at hx; rcases hx with rfl
        · exact ⟨rfl, rfl, by decide, by decide, rfl, noInt3 _ _ _ _ _ _ _⟩
      · intro x hx; simp only [List.mem_cons, List.not_mem_nil, or_false] at hx; rcases hx with rfl <;> exact ⟨rfl, rfl, by simp⟩
      · intro x hx y hy h; simp only [List.mem_cons, List.not_mem_nil, or_false] at hx hy; rcases hx with rfl <;> rcases hy with rfl
        · exact absurd rfl h
      · refine ⟨?o0, ?o1, ?o2, ?o3, ?o4, ?o5, ?o6, ?o7, ?o8, ?o9, ?o10, trivial⟩
        case o0 =>
          intro f w4 hE hp
          have hS := hE.size
          change OpGoal _ _ _ f w4 Ext _
          exact og_load (P := Try.prog) _ _ w.heap.size _ _ _ rfl rfl rfl (C1.ext hE) Try.underlying28 rfl (by kernel_rfl) rfl
        case o1 =>
          intro f w4 hE hp
          have hS := hE.size
          have q14 : f 0 = .agg #[.bool b, .slice ad n1 cap, .slice ad2 n2 cap2] := tellA hp 0 0 rfl rfl rfl
          change OpGoal _ _ _ f w4 Ext _
          refine og_call (P := Try.prog) _ _ _ #[f 0] Try.func27 (by kernel_rfl) (by kernel_rfl) rfl rfl (by kernel_rfl) ?_
          rw [q14]
          refine (rqcopy3_calls _ b xs ys _ (Hv.out.ext (E3.trans hE)) (by omega) (by omega)).mono ?_
          rintro e w' ⟨v', rfl, h1, h2⟩
          exact ⟨v', rfl, h2, h1.mono hS⟩
        case o2 =>
          intro f w4 hE hp
          have hS := hE.size
          change OpGoal _ _ _ f w4 Ext _
          exact og_load (P := Try.prog) _ _ (w.heap.size + 1) _ _ _ rfl rfl rfl (C2.ext hE) Try.underlying28 rfl (by kernel_rfl) rfl
        case o3 =>
          intro f w4 hE hp
          have hS := hE.size
          have q16 : f 2 = .agg #[.bool c, .slice bd n3 dap, .slice bd2 n4 dap2] := tellA hp 0 2 rfl rfl rfl
          change OpGoal _ _ _ f w4 Ext _
          refine og_call (P := Try.prog) _ _ _ #[f 2] Try.func27 (by kernel_rfl) (by kernel_rfl) rfl rfl (by kernel_rfl) ?_
          rw [q16]
          refine (rqcopy3_calls _ c xs2 ys2 _ (Hu.out.ext (E3.trans hE)) (by omega) (by omega)).mono ?_
          rintro e w' ⟨v', rfl, h1, h2⟩
          exact ⟨v', rfl, h2, h1.mono hS⟩
        case o4 =>
          intro f w4 hE hp
          have hS := hE.size
          have q15 := tellA hp 0 1 rfl rfl rfl
          have q17 := tellA hp 1 3 rfl rfl rfl
          change OpGoal _ _ _ f w4 Ext _
          refine og_call (P := Try.prog) _ _ _ #[f 1, f 3] Try.func38 (by kernel_rfl) (by kernel_rfl) rfl rfl (by kernel_rfl) ?_
          refine (rdiv_calls _ _ x y 12 12 _ (RX.out _ _ (FrR.raw q15)) (RY.out _ _ (FrR.raw q17)) Hy0.out (by omega)).mono ?_
          rintro e w' ⟨v', rfl, h1, _, h2⟩
          exact ⟨_, rfl, h2, v', rfl, h1.mono hS⟩
        case o5 =>
          intro f w4 hE hp
          have hS := hE.size
          have q18 := tellA hp 0 4 rfl rfl rfl
          change OpGoal _ _ _ f w4 Ext _
          exact ⟨_, rfl, Ext.refl _, q18⟩
        case o6 =>
          intro f w4 hE hp
          have hS := hE.size
          have q13 := tellA hp 0 5 rfl rfl rfl
          change OpGoal _ _ _ f w4 Ext _
          obtain ⟨v', hv, hq⟩ := q13
          simp only [OpGoal]
          go_simp
          exact ⟨_, rfl, Ext.refl _, hq⟩
        case o7 =>
          intro f w4 hE hp
          have hS := hE.size
          have q13 := tellA hp 0 5 rfl rfl rfl
          obtain ⟨v', hv, hq⟩ := q13
          simp only [OpGoal]
          go_simp
          exact ⟨_, rfl, Ext.refl _, rfl⟩
        case o8 =>
          intro f w4 hE hp
          have hS := hE.size
          change OpGoal _ _ _ f w4 (fun a b => b = a.alloc _) _
          exact og_alloc (P := Try.prog) _ _ (.agg #[.bool false, .slice none 0 0, .slice none 0 0]) rfl rfl (by kernel_rfl) rfl
        case o9 =>
          intro f w4 hE hp
          have hS := hE.size
          have q19 := tellA hp 1 6 rfl rfl rfl
          intro g old hfa hSg hbx hsz hno
          change OpGoal _ _ _ f w4 (Chg g) _
          obtain ⟨cells, hv, hcs, hc1, hcn⟩ := FrQ.parts q19
          exact og_storeA (P := Try.prog) (PA.frQ (x / y)) 3 _ _ _ g _ old cells rfl rfl hfa hv hbx (by rw [hcs]; kernel_rfl) hsz hcs hc1 hSg (show 28 ≠ 79 by decide) (show 28 ≠ 3 by decide) hno hcn (hv ▸ q19)
        case o10 =>
          intro f w4 hE hp
          have hS := hE.size
          have q20 : f 7 = .int .i64 0 := tellA hp 0 7 rfl rfl rfl
          change OpGoal _ _ _ f w4 Ext _
          simp only [OpGoal]
          go_simp
          exact ⟨_, rfl, Ext.refl _, rfl⟩
      · intro f w4 hE hp hal
        obtain ⟨ga5, ca5, fa5, la5, ba5, na5, pa5⟩ := hal ⟨8, 28, 3, #[.bool false, .slice none 0 0, .slice none 0 0]⟩ (by simp) (by decide)
        dsimp only at fa5 la5 ba5 na5
        have za5 := pa5 ⟨9, ⟨8, 28, 3, #[.bool false, .slice none 0 0, .slice none 0 0]⟩, PA.frQ (x / y)⟩ (by simp) (by show 9 < 11; decide) rfl rfl
        clear pa5
        have q6 : f 10 = .int .i64 0 := endA hp 10 (by decide) rfl rfl
        try simp only [q6]
        clear hp hal
        obtain ⟨b9, ad9, l9, cap9, bd9, m9, dap9, hv9, q9⟩ := FrQ.opn za5
        cases hv9
        have D2 := C2.ext hE
        have hd0 := D2.cell 0
        have hd1 := D2.cell 1
        have hd2 := D2.cell 2
        go_wp2_with fail
        refine (rqof3_calls _ _ _ _ ((Hu.out.ext (E3.trans hE)).isQ dx2 dy2 (by rw [LIM_eq]; omega) (by rw [LIM_eq]; omega)) (by have := SY.out.1; omega) (by have := SY.out.2.1; omega)).mono ?_
        rw [show mkRat (rawN c xs2) (rawD ys2) = y from Hy.out.symm]
        rintro e w5 ⟨v5, rfl, q5, e5⟩
        obtain ⟨b5, ad5, l5, cap5, bd5, m5, dap5, rfl, q5⟩ := q5.opn
        obtain ⟨w6, hw6, e6, b6, s6⟩ := alloc1 w5 #[.bool b5, .slice ad5 l5 cap5, .slice bd5 m5 dap5] 40
        have hk0 := b6.cell 0
        have hk1 := b6.cell 1
        have hk2 := b6.cell 2
        rw [hw6] at hk0 hk1 hk2
        go_wp2_with fail
        rw [← hw6]
        clear hk0 hk1 hk2 hd0 hd1 hd2
        refine (rqsign3_calls _ y _ (q5.cq.ext e6)).mono ?_
        rintro e w7 ⟨rfl, e7⟩
        have F57 := (e5.trans e6).trans e7
        have D5 := ba5.ext F57
        have D1 := (C1.ext hE).ext F57
        have D7 := b6.ext e7
        have Q5 := q5.cq.ext (e6.trans e7)
        have Q9 := q9.ext F57
        have E7 := (E3.trans hE).trans F57
        go_wp2_with fail
        refine wp_region_puts [] [PP.val (.int .i64 0), PP.val (.bool true), PP.val (.bool true), PP.val (.agg #[.bool b9, .slice ad9 l9 cap9, .slice bd9 m9 dap9]), PP.val (.agg #[.bool b, .slice ad n1 cap, .slice ad2 n2 cap2]), PP.frQd x, PP.val (.agg #[.bool b5, .slice ad5 l5 cap5, .slice bd5 m5 dap5]), PP.frQd (x / y), PP.frQ (x / y), PP.val (.bool true), PP.val (.bool true), PP.val (.bool true)] [] [0, 1, 2, 3, 4, 5, 6, 7, 8, 9, 10, 11]
          (by kernel_rfl) (by kernel_rfl) (fun f => (by simp only [fillR, fillL, List.setIfInBounds_toArray, List.set_cons_succ, List.set_cons_zero, Nat.reduceAdd]; rfl)) ?_ ?_ ?_ ?_ ?_
        · intro x hx; cases hx
        · intro x hx; cases hx
        · intro x hx; cases hx
        · refine ⟨?o0, ?o1, ?o2, ?o3, ?o4, ?o5, ?o6, ?o7, ?o8, ?o9, ?o10, ?o11, trivial⟩
          case o0 =>
            intro f w8 hG hp hl
            have hE : Ext w7 w8 := hG
            have hS := hE.size
            simp only [OpGoal]
            go_simp
            exact ⟨_, rfl, Ext.refl _, rfl⟩
          case o1 =>
            intro f w8 hG hp hl
            have hE : Ext w7 w8 := hG
            have hS := hE.size
            have q33 : f 0 = .int .i64 0 := tellV hp 0 0 rfl rfl (fun h => by cases h)
            simp only [OpGoal]
            go_simp
            exact ⟨_, rfl, Ext.refl _, rfl⟩
          case o2 =>
            intro f w8 hG hp hl
            have hE : Ext w7 w8 := hG
            have hS := hE.size
            have q34 : f 1 = .bool true := tellV hp 0 1 rfl rfl (fun h => by cases h)
            simp only [OpGoal]
            go_simp
            exact ⟨_, rfl, Ext.refl _, rfl⟩
          case o3 =>
            intro f w8 hG hp hl
            have hE : Ext w7 w8 := hG
            have hS := hE.size
            have qg : f 2 = .bool true := tellV hp 0 2 rfl rfl (fun h => by cases h)
            change OpGoal _ _ _ f w8 Ext _
            refine og_guard (j := 2) (want := true) rfl qg ?_
            change OpGoal _ _ _ f w8 Ext _
            exact og_load (P := Try.prog) _ _ ga5 _ _ _ rfl rfl rfl (D5.ext hE) Try.underlying28 rfl (by kernel_rfl) rfl
          case o4 =>
            intro f w8 hG hp hl
            have hE : Ext w7 w8 := hG
            have hS := hE.size
            have qg : f 2 = .bool true := tellV hp 0 2 rfl rfl (fun h => by cases h)
            change OpGoal _ _ _ f w8 Ext _
            refine og_guard (j := 2) (want := true) rfl qg ?_
            change OpGoal _ _ _ f w8 Ext _
            exact og_load (P := Try.prog) _ _ w.heap.size _ _ _ rfl rfl rfl (D1.ext hE) Try.underlying28 rfl (by kernel_rfl) rfl
          case o5 =>
            intro f w8 hG hp hl
            have hE : Ext w7 w8 := hG
            have hS := hE.size
            have q37 : f 4 = .agg #[.bool b, .slice ad n1 cap, .slice ad2 n2 cap2] := tellV hp 0 4 rfl rfl (fun h => by cases h)
            have qg : f 2 = .bool true := tellV hp 1 2 rfl rfl (fun h => by cases h)
            change OpGoal _ _ _ f w8 Ext _
            refine og_guard (j := 2) (want := true) rfl qg ?_
            change OpGoal _ _ _ f w8 Ext _
            refine og_call (P := Try.prog) _ _ _ #[f 4] Try.func28 (by kernel_rfl) (by kernel_rfl) rfl rfl (by kernel_rfl) ?_
            rw [q37]
            refine (rqof3_calls _ _ _ _ ((Hv.out.ext (E7.trans hE)).isQ dx dy (by rw [LIM_eq]; omega) (by rw [LIM_eq]; omega)) (by have := SX.out.1; omega) (by have := SX.out.2.1; omega)).mono ?_
            rw [show mkRat (rawN b xs) (rawD ys) = x from Hx.out.symm]
            rintro e w' ⟨v', rfl, h1, h2⟩
            exact ⟨v', rfl, h2, h1.mono hS⟩
          case o6 =>
            intro f w8 hG hp hl
            have hE : Ext w7 w8 := hG
            have hS := hE.size
            have qg : f 2 = .bool true := tellV hp 0 2 rfl rfl (fun h => by cases h)
            change OpGoal _ _ _ f w8 Ext _
            refine og_guard (j := 2) (want := true) rfl qg ?_
            change OpGoal _ _ _ f w8 Ext _
            exact og_load (P := Try.prog) _ _ w5.heap.size _ _ _ rfl rfl rfl (D7.ext hE) Try.underlying40 rfl (by kernel_rfl) rfl
          case o7 =>
            intro f w8 hG hp hl
            have hE : Ext w7 w8 := hG
            have hS := hE.size
            have q38 := tellV hp 0 5 rfl rfl (fun _ => hE)
            have q39 : f 6 = .agg #[.bool b5, .slice ad5 l5 cap5, .slice bd5 m5 dap5] := tellV hp 1 6 rfl rfl (fun h => by cases h)
            have qg : f 2 = .bool true := tellV hp 3 2 rfl rfl (fun h => by cases h)
            change OpGoal _ _ _ f w8 Ext _
            refine og_guard (j := 2) (want := true) rfl qg ?_
            change OpGoal _ _ _ f w8 Ext _
            refine og_call (P := Try.prog) _ _ _ #[f 5, f 6] Try.func40 (by kernel_rfl) (by kernel_rfl) rfl rfl (by kernel_rfl) ?_
            rw [q39]
            refine (rqdiv3_calls _ _ x y 60 60 _ q38.cq (Q5.ext hE) Hy0.out hxD hyD (by omega)).mono ?_
            rintro e w' ⟨v', rfl, h1, h2⟩
            exact ⟨v', rfl, h2, h1.mono hS⟩
          case o8 =>
            intro f w8 hG hp hl
            have hE : Ext w7 w8 := hG
            have hS := hE.size
            have q40 := tellV hp 0 7 rfl rfl (fun _ => hE)
            have qg : f 2 = .bool true := tellV hp 2 2 rfl rfl (fun h => by cases h)
            change OpGoal _ _ _ f w8 Ext _
            refine og_guard (j := 2) (want := true) rfl qg ?_
            change OpGoal _ _ _ f w8 Ext _
            refine og_call (P := Try.prog) _ _ _ #[f 7] Try.func17 (by kernel_rfl) (by kernel_rfl) rfl rfl (by kernel_rfl) ?_
            refine (rqto3_calls _ (x / y) _ q40.cq (by omega)).mono ?_
            rintro e w' ⟨v', rfl, h1, h2⟩
            exact ⟨v', rfl, h2, h1.mono hS⟩
          case o9 =>
            intro f w8 hG hp hl
            have hE : Ext w7 w8 := hG
            have hS := hE.size
            have q36 : f 3 = .agg #[.bool b9, .slice ad9 l9 cap9, .slice bd9 m9 dap9] := tellV hp 0 3 rfl rfl (fun h => by cases h)
            have q41 := tellV hp 1 8 rfl rfl (fun _ => hE)
            have qg : f 2 = .bool true := tellV hp 3 2 rfl rfl (fun h => by cases h)
            change OpGoal _ _ _ f w8 Ext _
            refine og_guard (j := 2) (want := true) rfl qg ?_
            change OpGoal _ _ _ f w8 Ext _
            refine og_call (P := Try.prog) _ _ _ #[f 3, f 8] Try.func16 (by kernel_rfl) (by kernel_rfl) rfl rfl (by kernel_rfl) ?_
            rw [q36]
            refine (same_true _ _ _ _ _ _ (Q9.ext hE) q41).mono ?_
            rintro e w' ⟨rfl, h2⟩
            exact ⟨_, rfl, h2, rfl⟩
          case o10 =>
            intro f w8 hG hp hl
            have hE : Ext w7 w8 := hG
            have hS := hE.size
            have q35 : f 2 = .bool true := tellV hp 0 2 rfl rfl (fun h => by cases h)
            have q42 : f 9 = .bool true := tellV hp 1 9 rfl rfl (fun h => by cases h)
            simp only [OpGoal]
            go_simp
            exact ⟨_, rfl, Ext.refl _, rfl⟩
          case o11 =>
            intro f w8 hG hp hl
            have hE : Ext w7 w8 := hG
            have hS := hE.size
            have q43 : f 10 = .bool true := tellV hp 0 10 rfl rfl (fun h => by cases h)
            simp only [OpGoal]
            go_simp
            exact ⟨_, rfl, Ext.refl _, rfl⟩
        · intro f w8 hG hp
          have hE : Ext w7 w8 := ChgS.nil hG
          have q4 : f 11 = .bool true := endV hp 11 (by decide) rfl (fun h => by cases h)
          try simp only [q4]
          clear hp
          go_wp2
          go_ret
          exact ⟨rfl, E7.trans hE⟩
end Go.Proofs.Ytnefipinicfegaa
