/-
  The law RatSums returns true, whatever its two fractions are.
-/
import Derived.Test.YtnefipinicfegaaLits
namespace Go.Proofs.Ytnefipinicfegaa
open Go.RowKit
set_option linter.unusedVariables false
set_option linter.unusedSimpArgs false

set_option maxRecDepth 100000 in
set_option maxHeartbeats 4000000 in
theorem ratSums_calls (v u : Value) (b c : Bool) (xs ys xs2 ys2 : List Nat) (w : World) (hv : RawQ w v b xs ys) (hu : RawQ w u c xs2 ys2) (dx : Dig W xs) (dy : Dig W ys) (dx2 : Dig W xs2) (dy2 : Dig W ys2)
    (hl1 : xs.length + ys.length ≤ 9223372036854775807) (hl2 : xs2.length + ys2.length ≤ 9223372036854775807) :
    Calls Try.prog 9 #[v, u] w fun e w' => e = .returned (.bool true) ∧ Ext w w' := by
  have Hv := Lib.hid hv
  have Hu := Lib.hid hu
  obtain ⟨ad, n1, cap, ad2, n2, cap2, hn1, hn2, rfl⟩ := hv.opn2
  obtain ⟨bd, n3, dap, bd2, n4, dap2, hn3, hn4, rfl⟩ := hu.opn2
  have Hgs := Lib.hid (great_split (n1 + n2) (n3 + n4))
  clear hv hu
  have Hn1 := Lib.hid hn1
  have Hn2 := Lib.hid hn2
  have Hn3 := Lib.hid hn3
  have Hn4 := Lib.hid hn4
  clear hn1 hn2 hn3 hn4
  go_enter Try.func9, Try.ntmps9
  obtain ⟨w1, hw1, e1, b1, b2, s1⟩ := alloc2 w #[.bool b, .slice ad n1 cap, .slice ad2 n2 cap2] #[.bool c, .slice bd n3 dap, .slice bd2 n4 dap2] 28 28
  go_wp2_with fail
  rw [← hw1]
  refine (speaks_calls _).mono ?_
  rintro e w2 ⟨rfl, e2⟩
  have B1 := b1.ext e2
  have B2 := b2.ext e2
  have E := e1.trans e2
  have hc0 := B1.cell 0
  have hc1 := B1.cell 1
  have hc2 := B1.cell 2
  have hd0 := B2.cell 0
  have hd1 := B2.cell 1
  have hd2 := B2.cell 2
  go_wp2_with fail
  refine (great_calls _ _ b c xs ys xs2 ys2 _ (Hv.out.ext E) (Hu.out.ext E) (by have := Hn1.out; have := Hn2.out; omega) (by have := Hn3.out; have := Hn4.out; omega)).mono ?_
  rw [← Hn1.out, ← Hn2.out, ← Hn3.out, ← Hn4.out]
  rintro e w3 ⟨rfl, e3⟩
  rcases Hgs.out with hg | ⟨hg, hk1, hk2⟩
  · rw [hg]
    go_wp2
    go_ret
    exact ⟨rfl, E.trans e3⟩
  · rw [hg]
    have E3 := E.trans e3
    have C1 := B1.ext e3
    have C2 := B2.ext e3
    have X1 : xs.length ≤ 12 := by rw [← Hn1.out]; omega
    have X2 : ys.length ≤ 12 := by rw [← Hn2.out]; omega
    have X3 : xs2.length ≤ 12 := by rw [← Hn3.out]; omega
    have X4 : ys2.length ≤ 12 := by rw [← Hn4.out]; omega
    have lim : (12 : Nat) ≤ LIM := by rw [LIM_eq]; omega
    obtain ⟨x, hx⟩ : ∃ x, x = rawR b xs ys := ⟨_, rfl⟩
    obtain ⟨y, hy⟩ : ∃ y, y = rawR c xs2 ys2 := ⟨_, rfl⟩
    have RX := Lib.hid (show ∀ wz vz, RawQ wz vz b xs ys → IsR wz vz x 12 from fun wz vz h => by rw [hx]; exact h.isR dx dy 12 X1 X2 (by omega) lim)
    have RY := Lib.hid (show ∀ wz vz, RawQ wz vz c xs2 ys2 → IsR wz vz y 12 from fun wz vz h => by rw [hy]; exact h.isR dx2 dy2 12 X3 X4 (by omega) lim)
    have SX := Lib.hid (rawR_szD (b := b) dx dy 12 X1 X2 (by omega))
    have SY := Lib.hid (rawR_szD (b := c) dx2 dy2 12 X3 X4 (by omega))
    have Hx := Lib.hid hx
    have Hy := Lib.hid hy
    have hxD : szD x ≤ 60 := by rw [Hx.out]; exact SX.out.2.2
    have hyD : szD y ≤ 60 := by rw [Hy.out]; exact SY.out.2.2
    clear hx hy hc0 hc1 hc2 hd0 hd1 hd2
    have hnD := szD_neg x
    obtain ⟨p, hp0⟩ : ∃ p, p = cmpR x y := ⟨_, rfl⟩
    obtain ⟨z, hz0⟩ : ∃ z, z = x.num.sign := ⟨_, rfl⟩
    have Hp := Lib.hid hp0.symm
    have Hz := Lib.hid hz0.symm
    clear hp0 hz0
    go_wp2_with fail
    refine wp_region_als [⟨4, 28, 3, #[.bool false, .slice none 0 0, .slice none 0 0]⟩, ⟨5, 28, 3, #[.bool false, .slice none 0 0, .slice none 0 0]⟩] [⟨6, ⟨4, 28, 3, #[.bool false, .slice none 0 0, .slice none 0 0]⟩, PA.frR b xs ys⟩, ⟨7, ⟨5, 28, 3, #[.bool false, .slice none 0 0, .slice none 0 0]⟩, PA.frR c xs2 ys2⟩] [PA.val (.agg #[.bool b, .slice ad n1 cap, .slice ad2 n2 cap2]), PA.frR b xs ys, PA.val (.agg #[.bool c, .slice bd n3 dap, .slice bd2 n4 dap2]), PA.frR c xs2 ys2, PA.any, PA.any, PA.any, PA.any]
      (by kernel_rfl) (by kernel_rfl) (fun f => (by simp only [fillR, fillL, List.setIfInBounds_toArray, List.set_cons_succ, List.set_cons_zero, Nat.reduceAdd]; rfl)) ?_ ?_ ?_ ?_ ?_
    · intro x hx; simp only [List.mem_cons, List.not_mem_nil, or_false] at hx; rcases hx with rfl | rfl
      · exact ⟨rfl, rfl, by decide, by decide, rfl, noInt3 _ _ _ _ _ _ _⟩
      · exact ⟨rfl, rfl, by decide, by decide, rfl, noInt3 _ _ _ _ _ _ _⟩
    · intro x hx; simp only [List.mem_cons, List.not_mem_nil, or_false] at hx; rcases hx with rfl | rfl <;> exact ⟨rfl, rfl, by simp⟩
    · intro x hx y hy h; simp only [List.mem_cons, List.not_mem_nil, or_false] at hx hy; rcases hx with rfl | rfl <;> rcases hy with rfl | rfl
      · exact absurd rfl h
      · show 4 ≠ 5; decide
      · show 5 ≠ 4; decide
      · exact absurd rfl h
    · refine ⟨?o0, ?o1, ?o2, ?o3, ?o4, ?o5, ?o6, ?o7, trivial⟩
      case o0 =>
        intro f w4 hE hp
        have hS := hE.size
        change OpGoal _ _ _ f w4 Ext _
        exact og_load (P := Try.prog) _ _ w.heap.size _ _ _ rfl rfl rfl (C1.ext hE) Try.underlying28 rfl (by kernel_rfl) rfl
      case o1 =>
        intro f w4 hE hp
        have hS := hE.size
        have q19 : f 0 = .agg #[.bool b, .slice ad n1 cap, .slice ad2 n2 cap2] := tellA hp 0 0 rfl rfl rfl
        change OpGoal _ _ _ f w4 Ext _
        refine og_call (P := Try.prog) _ _ _ #[f 0] Try.func27 (by kernel_rfl) (by kernel_rfl) rfl rfl (by kernel_rfl) ?_
        rw [q19]
        refine (rqcopy3_calls _ b xs ys _ (Hv.out.ext (E3.trans hE)) (by omega) (by omega)).mono ?_
        rintro e w' ⟨v', rfl, h1, h2⟩
        exact ⟨v', rfl, h2, h1.mono hS⟩
      case o2 =>
        intro f w4 hE hp
        have hS := hE.size
        change OpGoal _ _ _ f w4 Ext _
        exact og_load (P := Try.prog) _ _ (w.heap.size + 1) _ _ _ rfl rfl rfl (C2.ext hE) Try.underlying28 rfl (by kernel_rfl) rfl
      case o3 =>
        intro f w4 hE hp
        have hS := hE.size
        have q21 : f 2 = .agg #[.bool c, .slice bd n3 dap, .slice bd2 n4 dap2] := tellA hp 0 2 rfl rfl rfl
        change OpGoal _ _ _ f w4 Ext _
        refine og_call (P := Try.prog) _ _ _ #[f 2] Try.func27 (by kernel_rfl) (by kernel_rfl) rfl rfl (by kernel_rfl) ?_
        rw [q21]
        refine (rqcopy3_calls _ c xs2 ys2 _ (Hu.out.ext (E3.trans hE)) (by omega) (by omega)).mono ?_
        rintro e w' ⟨v', rfl, h1, h2⟩
        exact ⟨v', rfl, h2, h1.mono hS⟩
      case o4 =>
        intro f w4 hE hp
        have hS := hE.size
        change OpGoal _ _ _ f w4 (fun a b => b = a.alloc _) _
        exact og_alloc (P := Try.prog) _ _ (.agg #[.bool false, .slice none 0 0, .slice none 0 0]) rfl rfl (by kernel_rfl) rfl
      case o5 =>
        intro f w4 hE hp
        have hS := hE.size
        change OpGoal _ _ _ f w4 (fun a b => b = a.alloc _) _
        exact og_alloc (P := Try.prog) _ _ (.agg #[.bool false, .slice none 0 0, .slice none 0 0]) rfl rfl (by kernel_rfl) rfl
      case o6 =>
        intro f w4 hE hp
        have hS := hE.size
        have q20 := tellA hp 1 1 rfl rfl rfl
        intro g old hfa hSg hbx hsz hno
        change OpGoal _ _ _ f w4 (Chg g) _
        obtain ⟨cells, hv, hcs, hc1, hcn⟩ := FrR.parts q20
        exact og_storeA (P := Try.prog) (PA.frR b xs ys) 3 _ _ _ g _ old cells rfl rfl hfa hv hbx (by rw [hcs]; kernel_rfl) hsz hcs hc1 hSg (show 28 ≠ 79 by decide) (show 28 ≠ 3 by decide) hno hcn (hv ▸ q20)
      case o7 =>
        intro f w4 hE hp
        have hS := hE.size
        have q22 := tellA hp 1 3 rfl rfl rfl
        intro g old hfa hSg hbx hsz hno
        change OpGoal _ _ _ f w4 (Chg g) _
        obtain ⟨cells, hv, hcs, hc1, hcn⟩ := FrR.parts q22
        exact og_storeA (P := Try.prog) (PA.frR c xs2 ys2) 3 _ _ _ g _ old cells rfl rfl hfa hv hbx (by rw [hcs]; kernel_rfl) hsz hcs hc1 hSg (show 28 ≠ 79 by decide) (show 28 ≠ 3 by decide) hno hcn (hv ▸ q22)
    · intro f w4 hE hp hal
      obtain ⟨ga5, ca5, fa5, la5, ba5, na5, pa5⟩ := hal ⟨4, 28, 3, #[.bool false, .slice none 0 0, .slice none 0 0]⟩ (by simp) (by decide)
      dsimp only at fa5 la5 ba5 na5
      have za5 := pa5 ⟨6, ⟨4, 28, 3, #[.bool false, .slice none 0 0, .slice none 0 0]⟩, PA.frR b xs ys⟩ (by simp) (by show 6 < 8; decide) rfl rfl
      clear pa5
      obtain ⟨ga6, ca6, fa6, la6, ba6, na6, pa6⟩ := hal ⟨5, 28, 3, #[.bool false, .slice none 0 0, .slice none 0 0]⟩ (by simp) (by decide)
      dsimp only at fa6 la6 ba6 na6
      have za6 := pa6 ⟨7, ⟨5, 28, 3, #[.bool false, .slice none 0 0, .slice none 0 0]⟩, PA.frR c xs2 ys2⟩ (by simp) (by show 7 < 8; decide) rfl rfl
      clear pa6
      clear hp hal
      obtain ⟨ad5, l5, cap5, bd5, m5, dap5, hv5, q5⟩ := FrR.opn za5
      cases hv5
      obtain ⟨ad6, l6, cap6, bd6, m6, dap6, hv6, q6⟩ := FrR.opn za6
      cases hv6
      have E4 := E3.trans hE
      have D1 := C1.ext hE
      have D2 := C2.ext hE
      clear hE C1 C2
      go_wp2_with fail
      refine wp_region_als [⟨4, 40, 3, #[.bool false, .slice none 0 0, .slice none 0 0]⟩, ⟨5, 40, 3, #[.bool false, .slice none 0 0, .slice none 0 0]⟩] [⟨6, ⟨4, 40, 3, #[.bool false, .slice none 0 0, .slice none 0 0]⟩, PA.frQd x⟩, ⟨7, ⟨5, 40, 3, #[.bool false, .slice none 0 0, .slice none 0 0]⟩, PA.frQd y⟩] [PA.val (.agg #[.bool b, .slice ad n1 cap, .slice ad2 n2 cap2]), PA.frQd x, PA.val (.agg #[.bool c, .slice bd n3 dap, .slice bd2 n4 dap2]), PA.frQd y, PA.any, PA.any, PA.any, PA.any]
        (by kernel_rfl) (by kernel_rfl) (fun f => (by simp only [fillR, fillL, List.setIfInBounds_toArray, List.set_cons_succ, List.set_cons_zero, Nat.reduceAdd]; rfl)) ?_ ?_ ?_ ?_ ?_
      · intro x hx; simp only [List.mem_cons, List.not_mem_nil, or_false] at hx; rcases hx with rfl | rfl
        · exact ⟨rfl, rfl, by decide, by decide, rfl, noInt3 _ _ _ _ _ _ _⟩
        · exact ⟨rfl, rfl, by decide, by decide, rfl, noInt3 _ _ _ _ _ _ _⟩
      · intro x hx; simp only [List.mem_cons, List.not_mem_nil, or_false] at hx; rcases hx with rfl | rfl <;> exact ⟨rfl, rfl, by simp⟩
      · intro x hx y hy h; simp only [List.mem_cons, List.not_mem_nil, or_false] at hx hy; rcases hx with rfl | rfl <;> rcases hy with rfl | rfl
        · exact absurd rfl h
        · show 4 ≠ 5; decide
        · show 5 ≠ 4; decide
        · exact absurd rfl h
      · refine ⟨?o0, ?o1, ?o2, ?o3, ?o4, ?o5, ?o6, ?o7, trivial⟩
        case o0 =>
          intro f w5 hE hp
          have hS := hE.size
          change OpGoal _ _ _ f w5 Ext _
          exact og_load (P := Try.prog) _ _ w.heap.size _ _ _ rfl rfl rfl (D1.ext hE) Try.underlying28 rfl (by kernel_rfl) rfl
        case o1 =>
          intro f w5 hE hp
          have hS := hE.size
          have q23 : f 0 = .agg #[.bool b, .slice ad n1 cap, .slice ad2 n2 cap2] := tellA hp 0 0 rfl rfl rfl
          change OpGoal _ _ _ f w5 Ext _
          refine og_call (P := Try.prog) _ _ _ #[f 0] Try.func28 (by kernel_rfl) (by kernel_rfl) rfl rfl (by kernel_rfl) ?_
          rw [q23]
          refine (rqof3_calls _ _ _ _ ((Hv.out.ext (E4.trans hE)).isQ dx dy (by rw [LIM_eq]; omega) (by rw [LIM_eq]; omega)) (by have := SX.out.1; omega) (by have := SX.out.2.1; omega)).mono ?_
          rw [show mkRat (rawN b xs) (rawD ys) = x from Hx.out.symm]
          rintro e w' ⟨v', rfl, h1, h2⟩
          exact ⟨v', rfl, h2, h1.mono hS⟩
        case o2 =>
          intro f w5 hE hp
          have hS := hE.size
          change OpGoal _ _ _ f w5 Ext _
          exact og_load (P := Try.prog) _ _ (w.heap.size + 1) _ _ _ rfl rfl rfl (D2.ext hE) Try.underlying28 rfl (by kernel_rfl) rfl
        case o3 =>
          intro f w5 hE hp
          have hS := hE.size
          have q25 : f 2 = .agg #[.bool c, .slice bd n3 dap, .slice bd2 n4 dap2] := tellA hp 0 2 rfl rfl rfl
          change OpGoal _ _ _ f w5 Ext _
          refine og_call (P := Try.prog) _ _ _ #[f 2] Try.func28 (by kernel_rfl) (by kernel_rfl) rfl rfl (by kernel_rfl) ?_
          rw [q25]
          refine (rqof3_calls _ _ _ _ ((Hu.out.ext (E4.trans hE)).isQ dx2 dy2 (by rw [LIM_eq]; omega) (by rw [LIM_eq]; omega)) (by have := SY.out.1; omega) (by have := SY.out.2.1; omega)).mono ?_
          rw [show mkRat (rawN c xs2) (rawD ys2) = y from Hy.out.symm]
          rintro e w' ⟨v', rfl, h1, h2⟩
          exact ⟨v', rfl, h2, h1.mono hS⟩
        case o4 =>
          intro f w5 hE hp
          have hS := hE.size
          change OpGoal _ _ _ f w5 (fun a b => b = a.alloc _) _
          exact og_alloc (P := Try.prog) _ _ (.agg #[.bool false, .slice none 0 0, .slice none 0 0]) rfl rfl (by kernel_rfl) rfl
        case o5 =>
          intro f w5 hE hp
          have hS := hE.size
          change OpGoal _ _ _ f w5 (fun a b => b = a.alloc _) _
          exact og_alloc (P := Try.prog) _ _ (.agg #[.bool false, .slice none 0 0, .slice none 0 0]) rfl rfl (by kernel_rfl) rfl
        case o6 =>
          intro f w5 hE hp
          have hS := hE.size
          have q24 := tellA hp 1 1 rfl rfl rfl
          intro g old hfa hSg hbx hsz hno
          change OpGoal _ _ _ f w5 (Chg g) _
          obtain ⟨cells, hv, hcs, hc1, hcn⟩ := FrQd.parts q24
          exact og_storeA (P := Try.prog) (PA.frQd x) 3 _ _ _ g _ old cells rfl rfl hfa hv hbx (by rw [hcs]; kernel_rfl) hsz hcs hc1 hSg (show 40 ≠ 79 by decide) (show 40 ≠ 3 by decide) hno hcn (hv ▸ q24)
        case o7 =>
          intro f w5 hE hp
          have hS := hE.size
          have q26 := tellA hp 1 3 rfl rfl rfl
          intro g old hfa hSg hbx hsz hno
          change OpGoal _ _ _ f w5 (Chg g) _
          obtain ⟨cells, hv, hcs, hc1, hcn⟩ := FrQd.parts q26
          exact og_storeA (P := Try.prog) (PA.frQd y) 3 _ _ _ g _ old cells rfl rfl hfa hv hbx (by rw [hcs]; kernel_rfl) hsz hcs hc1 hSg (show 40 ≠ 79 by decide) (show 40 ≠ 3 by decide) hno hcn (hv ▸ q26)
      · intro f w5 hE hp hal
        obtain ⟨ga7, ca7, fa7, la7, ba7, na7, pa7⟩ := hal ⟨4, 40, 3, #[.bool false, .slice none 0 0, .slice none 0 0]⟩ (by simp) (by decide)
        dsimp only at fa7 la7 ba7 na7
        have za7 := pa7 ⟨6, ⟨4, 40, 3, #[.bool false, .slice none 0 0, .slice none 0 0]⟩, PA.frQd x⟩ (by simp) (by show 6 < 8; decide) rfl rfl
        clear pa7
        obtain ⟨ga8, ca8, fa8, la8, ba8, na8, pa8⟩ := hal ⟨5, 40, 3, #[.bool false, .slice none 0 0, .slice none 0 0]⟩ (by simp) (by decide)
        dsimp only at fa8 la8 ba8 na8
        have za8 := pa8 ⟨7, ⟨5, 40, 3, #[.bool false, .slice none 0 0, .slice none 0 0]⟩, PA.frQd y⟩ (by simp) (by show 7 < 8; decide) rfl rfl
        clear pa8
        clear hp hal
        obtain ⟨b7, ad7, l7, cap7, bd7, m7, dap7, hv7, q7⟩ := FrQd.opn za7
        cases hv7
        obtain ⟨b8, ad8, l8, cap8, bd8, m8, dap8, hv8, q8⟩ := FrQd.opn za8
        cases hv8
        have E5 := E4.trans hE
        have A1 := D1.ext hE
        have A2 := D2.ext hE
        have A5 := ba5.ext hE
        have A6 := ba6.ext hE
        have P5 := q5.ext hE
        have P6 := q6.ext hE
        have Q7 := q7.cq
        have Q8 := q8.cq
        have T5 := hE
        clear hE D1 D2 q7 q8
        go_wp2_with fail
        refine wp_region_puts [] [PP.val (.agg #[.bool b, .slice ad5 l5 cap5, .slice bd5 m5 dap5]), PP.val (.agg #[.bool c, .slice ad6 l6 cap6, .slice bd6 m6 dap6]), PP.frQ (x + y), PP.val (.agg #[.bool b, .slice ad5 l5 cap5, .slice bd5 m5 dap5]), PP.val (.agg #[.bool c, .slice ad6 l6 cap6, .slice bd6 m6 dap6]), PP.frQ (x - y), PP.val (.agg #[.bool b, .slice ad5 l5 cap5, .slice bd5 m5 dap5]), PP.val (.agg #[.bool c, .slice ad6 l6 cap6, .slice bd6 m6 dap6]), PP.frQ (x * y), PP.val (.agg #[.bool b, .slice ad5 l5 cap5, .slice bd5 m5 dap5]), PP.frQ (-x), PP.val (.agg #[.bool b, .slice ad5 l5 cap5, .slice bd5 m5 dap5]), PP.frQ x, PP.litQ [x + y, x - y, x * y, -x, x], PP.litQ [x + y, x - y, x * y, -x, x]] [] [0, 1, 2, 3, 4, 5, 6, 7, 8, 9, 10, 11, 12, 13, 14]
          (by kernel_rfl) (by kernel_rfl) (fun f => (by simp only [fillR, fillL, List.setIfInBounds_toArray, List.set_cons_succ, List.set_cons_zero, Nat.reduceAdd]; rfl)) ?_ ?_ ?_ ?_ ?_
        · intro x hx; cases hx
        · intro x hx; cases hx
        · intro x hx; cases hx
        · refine ⟨?o0, ?o1, ?o2, ?o3, ?o4, ?o5, ?o6, ?o7, ?o8, ?o9, ?o10, ?o11, ?o12, ?o13, ?o14, trivial⟩
          case o0 =>
            intro f w6 hG hp hl
            have hE : Ext w5 w6 := hG
            have hS := hE.size
            change OpGoal _ _ _ f w6 Ext _
            exact og_load (P := Try.prog) _ _ ga5 _ _ _ rfl rfl rfl (A5.ext hE) Try.underlying28 rfl (by kernel_rfl) rfl
          case o1 =>
            intro f w6 hG hp hl
            have hE : Ext w5 w6 := hG
            have hS := hE.size
            change OpGoal _ _ _ f w6 Ext _
            exact og_load (P := Try.prog) _ _ ga6 _ _ _ rfl rfl rfl (A6.ext hE) Try.underlying28 rfl (by kernel_rfl) rfl
          case o2 =>
            intro f w6 hG hp hl
            have hE : Ext w5 w6 := hG
            have hS := hE.size
            have q27 : f 0 = .agg #[.bool b, .slice ad5 l5 cap5, .slice bd5 m5 dap5] := tellV hp 0 0 rfl rfl (fun h => by cases h)
            have q28 : f 1 = .agg #[.bool c, .slice ad6 l6 cap6, .slice bd6 m6 dap6] := tellV hp 1 1 rfl rfl (fun h => by cases h)
            change OpGoal _ _ _ f w6 Ext _
            refine og_call (P := Try.prog) _ _ _ #[f 0, f 1] Try.func43 (by kernel_rfl) (by kernel_rfl) rfl rfl (by kernel_rfl) ?_
            rw [q27, q28]
            refine (radd_calls _ _ x y 12 12 _ (RX.out _ _ (FrR.raw (P5.ext hE))) (RY.out _ _ (FrR.raw (P6.ext hE))) (by omega)).mono ?_
            rintro e w' ⟨v', rfl, h1, _, h2⟩
            exact ⟨v', rfl, h2, h1.mono hS⟩
          case o3 =>
            intro f w6 hG hp hl
            have hE : Ext w5 w6 := hG
            have hS := hE.size
            change OpGoal _ _ _ f w6 Ext _
            exact og_load (P := Try.prog) _ _ ga5 _ _ _ rfl rfl rfl (A5.ext hE) Try.underlying28 rfl (by kernel_rfl) rfl
          case o4 =>
            intro f w6 hG hp hl
            have hE : Ext w5 w6 := hG
            have hS := hE.size
            change OpGoal _ _ _ f w6 Ext _
            exact og_load (P := Try.prog) _ _ ga6 _ _ _ rfl rfl rfl (A6.ext hE) Try.underlying28 rfl (by kernel_rfl) rfl
          case o5 =>
            intro f w6 hG hp hl
            have hE : Ext w5 w6 := hG
            have hS := hE.size
            have q30 : f 3 = .agg #[.bool b, .slice ad5 l5 cap5, .slice bd5 m5 dap5] := tellV hp 0 3 rfl rfl (fun h => by cases h)
            have q31 : f 4 = .agg #[.bool c, .slice ad6 l6 cap6, .slice bd6 m6 dap6] := tellV hp 1 4 rfl rfl (fun h => by cases h)
            change OpGoal _ _ _ f w6 Ext _
            refine og_call (P := Try.prog) _ _ _ #[f 3, f 4] Try.func46 (by kernel_rfl) (by kernel_rfl) rfl rfl (by kernel_rfl) ?_
            rw [q30, q31]
            refine (rsub_calls _ _ x y 12 12 _ (RX.out _ _ (FrR.raw (P5.ext hE))) (RY.out _ _ (FrR.raw (P6.ext hE))) (by omega)).mono ?_
            rintro e w' ⟨v', rfl, h1, _, h2⟩
            exact ⟨v', rfl, h2, h1.mono hS⟩
          case o6 =>
            intro f w6 hG hp hl
            have hE : Ext w5 w6 := hG
            have hS := hE.size
            change OpGoal _ _ _ f w6 Ext _
            exact og_load (P := Try.prog) _ _ ga5 _ _ _ rfl rfl rfl (A5.ext hE) Try.underlying28 rfl (by kernel_rfl) rfl
          case o7 =>
            intro f w6 hG hp hl
            have hE : Ext w5 w6 := hG
            have hS := hE.size
            change OpGoal _ _ _ f w6 Ext _
            exact og_load (P := Try.prog) _ _ ga6 _ _ _ rfl rfl rfl (A6.ext hE) Try.underlying28 rfl (by kernel_rfl) rfl
          case o8 =>
            intro f w6 hG hp hl
            have hE : Ext w5 w6 := hG
            have hS := hE.size
            have q33 : f 6 = .agg #[.bool b, .slice ad5 l5 cap5, .slice bd5 m5 dap5] := tellV hp 0 6 rfl rfl (fun h => by cases h)
            have q34 : f 7 = .agg #[.bool c, .slice ad6 l6 cap6, .slice bd6 m6 dap6] := tellV hp 1 7 rfl rfl (fun h => by cases h)
            change OpGoal _ _ _ f w6 Ext _
            refine og_call (P := Try.prog) _ _ _ #[f 6, f 7] Try.func42 (by kernel_rfl) (by kernel_rfl) rfl rfl (by kernel_rfl) ?_
            rw [q33, q34]
            refine (rmul_calls _ _ x y 12 12 _ (RX.out _ _ (FrR.raw (P5.ext hE))) (RY.out _ _ (FrR.raw (P6.ext hE))) (by omega)).mono ?_
            rintro e w' ⟨v', rfl, h1, _, h2⟩
            exact ⟨v', rfl, h2, h1.mono hS⟩
          case o9 =>
            intro f w6 hG hp hl
            have hE : Ext w5 w6 := hG
            have hS := hE.size
            change OpGoal _ _ _ f w6 Ext _
            exact og_load (P := Try.prog) _ _ ga5 _ _ _ rfl rfl rfl (A5.ext hE) Try.underlying28 rfl (by kernel_rfl) rfl
          case o10 =>
            intro f w6 hG hp hl
            have hE : Ext w5 w6 := hG
            have hS := hE.size
            have q36 : f 9 = .agg #[.bool b, .slice ad5 l5 cap5, .slice bd5 m5 dap5] := tellV hp 0 9 rfl rfl (fun h => by cases h)
            change OpGoal _ _ _ f w6 Ext _
            refine og_call (P := Try.prog) _ _ _ #[f 9] Try.func47 (by kernel_rfl) (by kernel_rfl) rfl rfl (by kernel_rfl) ?_
            rw [q36]
            refine (rneg_calls _ x 12 _ (RX.out _ _ (FrR.raw (P5.ext hE))) (by omega)).mono ?_
            rintro e w' ⟨v', rfl, h1, h2⟩
            exact ⟨v', rfl, h2, h1.mono hS⟩
          case o11 =>
            intro f w6 hG hp hl
            have hE : Ext w5 w6 := hG
            have hS := hE.size
            change OpGoal _ _ _ f w6 Ext _
            exact og_load (P := Try.prog) _ _ ga5 _ _ _ rfl rfl rfl (A5.ext hE) Try.underlying28 rfl (by kernel_rfl) rfl
          case o12 =>
            intro f w6 hG hp hl
            have hE : Ext w5 w6 := hG
            have hS := hE.size
            have q38 : f 11 = .agg #[.bool b, .slice ad5 l5 cap5, .slice bd5 m5 dap5] := tellV hp 0 11 rfl rfl (fun h => by cases h)
            change OpGoal _ _ _ f w6 Ext _
            refine og_call (P := Try.prog) _ _ _ #[f 11] Try.func44 (by kernel_rfl) (by kernel_rfl) rfl rfl (by kernel_rfl) ?_
            rw [q38]
            refine (form_calls _ x 12 _ (RX.out _ _ (FrR.raw (P5.ext hE))) (by omega)).mono ?_
            rintro e w' ⟨v', rfl, h1, h2⟩
            exact ⟨v', rfl, h2, h1.mono hS⟩
          case o13 =>
            intro f w6 hG hp hl
            have hE : Ext w5 w6 := hG
            have hS := hE.size
            have q29 := tellV hp 0 2 rfl rfl (fun _ => hE)
            have q32 := tellV hp 1 5 rfl rfl (fun _ => hE)
            have q35 := tellV hp 2 8 rfl rfl (fun _ => hE)
            have q37 := tellV hp 3 10 rfl rfl (fun _ => hE)
            have q39 := tellV hp 4 12 rfl rfl (fun _ => hE)
            change OpGoal _ _ _ f w6 Ext _
            obtain ⟨hs5, hf5⟩ := frqs5 q29 q32 q35 q37 q39
            exact og_buildSlice (P := Try.prog) 64 28 5 3 _ [f 2, f 5, f 8, f 10, f 12] rfl rfl Try.underlying64 (by kernel_rfl) (by kernel_rfl) rfl rfl (by omega) (by omega) (by omega) hs5 (fun w' he hb => litQ_of hS hb rfl (hf5 w' he))
          case o14 =>
            intro f w6 hG hp hl
            have hE : Ext w5 w6 := hG
            have hS := hE.size
            have q40 := tellV hp 0 13 rfl rfl (fun _ => hE)
            exact ⟨_, rfl, Ext.refl _, q40⟩
        · intro f w6 hG hp
          have hE : Ext w5 w6 := ChgS.nil hG
          have q9 := endV hp 14 (by decide) rfl (fun _ => hE)
          clear hp
          obtain ⟨g9, hv9, L9⟩ := LitQ.opn 5 rfl q9
          rw [hv9]
          have E6 := E5.trans hE
          have F1 := A1.ext hE
          have F2 := A2.ext hE
          have F5 := A5.ext hE
          have F6 := A6.ext hE
          have F7 := ba7.ext hE
          have F8 := ba8.ext hE
          have R5 := P5.ext hE
          have R6 := P6.ext hE
          have S7 := Q7.ext hE
          have S8 := Q8.ext hE
          have hB := hE.size
          have T6 := T5.trans hE
          clear hE q9 hv9 A1 A2 A5 A6 ba7 ba8 P5 P6 Q7 Q8
          go_wp2_with fail
          refine wp_region_puts [] [PP.val (.agg #[.bool b7, .slice ad7 l7 cap7, .slice bd7 m7 dap7]), PP.val (.agg #[.bool b8, .slice ad8 l8 cap8, .slice bd8 m8 dap8]), PP.frQdS (x + y) 121, PP.frQ (x + y), PP.val (.agg #[.bool b7, .slice ad7 l7 cap7, .slice bd7 m7 dap7]), PP.val (.agg #[.bool b8, .slice ad8 l8 cap8, .slice bd8 m8 dap8]), PP.frQdS (x - y) 121, PP.frQ (x - y), PP.val (.agg #[.bool b7, .slice ad7 l7 cap7, .slice bd7 m7 dap7]), PP.val (.agg #[.bool b8, .slice ad8 l8 cap8, .slice bd8 m8 dap8]), PP.frQdS (x * y) 120, PP.frQ (x * y), PP.val (.agg #[.bool b7, .slice ad7 l7 cap7, .slice bd7 m7 dap7]), PP.cq (-x), PP.frQ (-x), PP.val (.agg #[.bool b7, .slice ad7 l7 cap7, .slice bd7 m7 dap7]), PP.frQ x, PP.litQ [x + y, x - y, x * y, -x, x], PP.litQ [x + y, x - y, x * y, -x, x]] [] [0, 1, 2, 3, 4, 5, 6, 7, 8, 9, 10, 11, 12, 13, 14, 15, 16, 17, 18]
            (by kernel_rfl) (by kernel_rfl) (fun f => (by simp only [fillR, fillL, List.setIfInBounds_toArray, List.set_cons_succ, List.set_cons_zero, Nat.reduceAdd]; rfl)) ?_ ?_ ?_ ?_ ?_
          · intro x hx; cases hx
          · intro x hx; cases hx
          · intro x hx; cases hx
          · refine ⟨?o0, ?o1, ?o2, ?o3, ?o4, ?o5, ?o6, ?o7, ?o8, ?o9, ?o10, ?o11, ?o12, ?o13, ?o14, ?o15, ?o16, ?o17, ?o18, trivial⟩
            case o0 =>
              intro f w7 hG hp hl
              have hE : Ext w6 w7 := hG
              have hS := hE.size
              change OpGoal _ _ _ f w7 Ext _
              exact og_load (P := Try.prog) _ _ ga7 _ _ _ rfl rfl rfl (F7.ext hE) Try.underlying40 rfl (by kernel_rfl) rfl
            case o1 =>
              intro f w7 hG hp hl
              have hE : Ext w6 w7 := hG
              have hS := hE.size
              change OpGoal _ _ _ f w7 Ext _
              exact og_load (P := Try.prog) _ _ ga8 _ _ _ rfl rfl rfl (F8.ext hE) Try.underlying40 rfl (by kernel_rfl) rfl
            case o2 =>
              intro f w7 hG hp hl
              have hE : Ext w6 w7 := hG
              have hS := hE.size
              have q41 : f 0 = .agg #[.bool b7, .slice ad7 l7 cap7, .slice bd7 m7 dap7] := tellV hp 0 0 rfl rfl (fun h => by cases h)
              have q42 : f 1 = .agg #[.bool b8, .slice ad8 l8 cap8, .slice bd8 m8 dap8] := tellV hp 1 1 rfl rfl (fun h => by cases h)
              change OpGoal _ _ _ f w7 Ext _
              refine og_call (P := Try.prog) _ _ _ #[f 0, f 1] Try.func48 (by kernel_rfl) (by kernel_rfl) rfl rfl (by kernel_rfl) ?_
              rw [q41, q42]
              refine (rqadd3_calls _ _ x y 60 60 _ (S7.ext hE) (S8.ext hE) hxD hyD (by omega)).mono ?_
              rintro e w' ⟨v', rfl, h1, h3, h2⟩
              exact ⟨v', rfl, h2, h1.mono hS, h3⟩
            case o3 =>
              intro f w7 hG hp hl
              have hE : Ext w6 w7 := hG
              have hS := hE.size
              have q43 := tellV hp 0 2 rfl rfl (fun _ => hE)
              change OpGoal _ _ _ f w7 Ext _
              refine og_call (P := Try.prog) _ _ _ #[f 2] Try.func17 (by kernel_rfl) (by kernel_rfl) rfl rfl (by kernel_rfl) ?_
              refine (rqto3_calls _ (x + y) _ q43.1.cq (by have := q43.2; omega)).mono ?_
              rintro e w' ⟨v', rfl, h1, h2⟩
              exact ⟨v', rfl, h2, h1.mono hS⟩
            case o4 =>
              intro f w7 hG hp hl
              have hE : Ext w6 w7 := hG
              have hS := hE.size
              change OpGoal _ _ _ f w7 Ext _
              exact og_load (P := Try.prog) _ _ ga7 _ _ _ rfl rfl rfl (F7.ext hE) Try.underlying40 rfl (by kernel_rfl) rfl
            case o5 =>
              intro f w7 hG hp hl
              have hE : Ext w6 w7 := hG
              have hS := hE.size
              change OpGoal _ _ _ f w7 Ext _
              exact og_load (P := Try.prog) _ _ ga8 _ _ _ rfl rfl rfl (F8.ext hE) Try.underlying40 rfl (by kernel_rfl) rfl
            case o6 =>
              intro f w7 hG hp hl
              have hE : Ext w6 w7 := hG
              have hS := hE.size
              have q45 : f 4 = .agg #[.bool b7, .slice ad7 l7 cap7, .slice bd7 m7 dap7] := tellV hp 0 4 rfl rfl (fun h => by cases h)
              have q46 : f 5 = .agg #[.bool b8, .slice ad8 l8 cap8, .slice bd8 m8 dap8] := tellV hp 1 5 rfl rfl (fun h => by cases h)
              change OpGoal _ _ _ f w7 Ext _
              refine og_call (P := Try.prog) _ _ _ #[f 4, f 5] Try.func35 (by kernel_rfl) (by kernel_rfl) rfl rfl (by kernel_rfl) ?_
              rw [q45, q46]
              refine (rqsub3_calls _ _ x y 60 60 _ (S7.ext hE) (S8.ext hE) hxD hyD (by omega)).mono ?_
              rintro e w' ⟨v', rfl, h1, h3, h2⟩
              exact ⟨v', rfl, h2, h1.mono hS, h3⟩
            case o7 =>
              intro f w7 hG hp hl
              have hE : Ext w6 w7 := hG
              have hS := hE.size
              have q47 := tellV hp 0 6 rfl rfl (fun _ => hE)
              change OpGoal _ _ _ f w7 Ext _
              refine og_call (P := Try.prog) _ _ _ #[f 6] Try.func17 (by kernel_rfl) (by kernel_rfl) rfl rfl (by kernel_rfl) ?_
              refine (rqto3_calls _ (x - y) _ q47.1.cq (by have := q47.2; omega)).mono ?_
              rintro e w' ⟨v', rfl, h1, h2⟩
              exact ⟨v', rfl, h2, h1.mono hS⟩
            case o8 =>
              intro f w7 hG hp hl
              have hE : Ext w6 w7 := hG
              have hS := hE.size
              change OpGoal _ _ _ f w7 Ext _
              exact og_load (P := Try.prog) _ _ ga7 _ _ _ rfl rfl rfl (F7.ext hE) Try.underlying40 rfl (by kernel_rfl) rfl
            case o9 =>
              intro f w7 hG hp hl
              have hE : Ext w6 w7 := hG
              have hS := hE.size
              change OpGoal _ _ _ f w7 Ext _
              exact og_load (P := Try.prog) _ _ ga8 _ _ _ rfl rfl rfl (F8.ext hE) Try.underlying40 rfl (by kernel_rfl) rfl
            case o10 =>
              intro f w7 hG hp hl
              have hE : Ext w6 w7 := hG
              have hS := hE.size
              have q49 : f 8 = .agg #[.bool b7, .slice ad7 l7 cap7, .slice bd7 m7 dap7] := tellV hp 0 8 rfl rfl (fun h => by cases h)
              have q50 : f 9 = .agg #[.bool b8, .slice ad8 l8 cap8, .slice bd8 m8 dap8] := tellV hp 1 9 rfl rfl (fun h => by cases h)
              change OpGoal _ _ _ f w7 Ext _
              refine og_call (P := Try.prog) _ _ _ #[f 8, f 9] Try.func49 (by kernel_rfl) (by kernel_rfl) rfl rfl (by kernel_rfl) ?_
              rw [q49, q50]
              refine (rqmul3_calls _ _ x y 60 60 _ (S7.ext hE) (S8.ext hE) hxD hyD (by omega)).mono ?_
              rintro e w' ⟨v', rfl, h1, h3, h2⟩
              exact ⟨v', rfl, h2, h1.mono hS, h3⟩
            case o11 =>
              intro f w7 hG hp hl
              have hE : Ext w6 w7 := hG
              have hS := hE.size
              have q51 := tellV hp 0 10 rfl rfl (fun _ => hE)
              change OpGoal _ _ _ f w7 Ext _
              refine og_call (P := Try.prog) _ _ _ #[f 10] Try.func17 (by kernel_rfl) (by kernel_rfl) rfl rfl (by kernel_rfl) ?_
              refine (rqto3_calls _ (x * y) _ q51.1.cq (by have := q51.2; omega)).mono ?_
              rintro e w' ⟨v', rfl, h1, h2⟩
              exact ⟨v', rfl, h2, h1.mono hS⟩
            case o12 =>
              intro f w7 hG hp hl
              have hE : Ext w6 w7 := hG
              have hS := hE.size
              change OpGoal _ _ _ f w7 Ext _
              exact og_load (P := Try.prog) _ _ ga7 _ _ _ rfl rfl rfl (F7.ext hE) Try.underlying40 rfl (by kernel_rfl) rfl
            case o13 =>
              intro f w7 hG hp hl
              have hE : Ext w6 w7 := hG
              have hS := hE.size
              have q53 : f 12 = .agg #[.bool b7, .slice ad7 l7 cap7, .slice bd7 m7 dap7] := tellV hp 0 12 rfl rfl (fun h => by cases h)
              change OpGoal _ _ _ f w7 Ext _
              refine og_call (P := Try.prog) _ _ _ #[f 12] Try.func50 (by kernel_rfl) (by kernel_rfl) rfl rfl (by kernel_rfl) ?_
              rw [q53]
              refine (rqneg3_calls _ x _ (S7.ext hE) (by omega)).mono ?_
              rintro e w' ⟨v', rfl, h1, h2⟩
              exact ⟨v', rfl, h2, h1⟩
            case o14 =>
              intro f w7 hG hp hl
              have hE : Ext w6 w7 := hG
              have hS := hE.size
              have q54 := tellV hp 0 13 rfl rfl (fun _ => hE)
              change OpGoal _ _ _ f w7 Ext _
              refine og_call (P := Try.prog) _ _ _ #[f 13] Try.func17 (by kernel_rfl) (by kernel_rfl) rfl rfl (by kernel_rfl) ?_
              refine (rqto3_calls _ (-x) _ q54 (by omega)).mono ?_
              rintro e w' ⟨v', rfl, h1, h2⟩
              exact ⟨v', rfl, h2, h1.mono hS⟩
            case o15 =>
              intro f w7 hG hp hl
              have hE : Ext w6 w7 := hG
              have hS := hE.size
              change OpGoal _ _ _ f w7 Ext _
              exact og_load (P := Try.prog) _ _ ga7 _ _ _ rfl rfl rfl (F7.ext hE) Try.underlying40 rfl (by kernel_rfl) rfl
            case o16 =>
              intro f w7 hG hp hl
              have hE : Ext w6 w7 := hG
              have hS := hE.size
              have q56 : f 15 = .agg #[.bool b7, .slice ad7 l7 cap7, .slice bd7 m7 dap7] := tellV hp 0 15 rfl rfl (fun h => by cases h)
              change OpGoal _ _ _ f w7 Ext _
              refine og_call (P := Try.prog) _ _ _ #[f 15] Try.func17 (by kernel_rfl) (by kernel_rfl) rfl rfl (by kernel_rfl) ?_
              rw [q56]
              refine (rqto3_calls _ x _ (S7.ext hE) (by omega)).mono ?_
              rintro e w' ⟨v', rfl, h1, h2⟩
              exact ⟨v', rfl, h2, h1.mono hS⟩
            case o17 =>
              intro f w7 hG hp hl
              have hE : Ext w6 w7 := hG
              have hS := hE.size
              have q44 := tellV hp 0 3 rfl rfl (fun _ => hE)
              have q48 := tellV hp 1 7 rfl rfl (fun _ => hE)
              have q52 := tellV hp 2 11 rfl rfl (fun _ => hE)
              have q55 := tellV hp 3 14 rfl rfl (fun _ => hE)
              have q57 := tellV hp 4 16 rfl rfl (fun _ => hE)
              change OpGoal _ _ _ f w7 Ext _
              obtain ⟨hs5, hf5⟩ := frqs5 q44 q48 q52 q55 q57
              exact og_buildSlice (P := Try.prog) 64 28 5 3 _ [f 3, f 7, f 11, f 14, f 16] rfl rfl Try.underlying64 (by kernel_rfl) (by kernel_rfl) rfl rfl (by omega) (by omega) (by omega) hs5 (fun w' he hb => litQ_of hS hb rfl (hf5 w' he))
            case o18 =>
              intro f w7 hG hp hl
              have hE : Ext w6 w7 := hG
              have hS := hE.size
              have q58 := tellV hp 0 17 rfl rfl (fun _ => hE)
              exact ⟨_, rfl, Ext.refl _, q58⟩
          · intro f w7 hG hp
            have hE : Ext w6 w7 := ChgS.nil hG
            have q10 := endV hp 18 (by decide) rfl (fun _ => hE)
            clear hp
            obtain ⟨g10, hv10, L10⟩ := LitQ.opn 5 rfl q10
            rw [hv10]
            have E7 := E6.trans hE
            have G1 := F1.ext hE
            have G2 := F2.ext hE
            have G5 := F5.ext hE
            have G6 := F6.ext hE
            have G7 := F7.ext hE
            have G8 := F8.ext hE
            have V5 := R5.ext hE
            have V6 := R6.ext hE
            have W7 := S7.ext hE
            have W8 := S8.ext hE
            have M9 := L9.ext hE
            have T7 := T6.trans hE
            clear hE q10 hv10 F1 F2 F5 F6 F7 F8 R5 R6 S7 S8 L9
            go_wp2_with fail
            refine wp_region_puts [] [PP.val (.slice (some ⟨g9, 0, none⟩) 5 5), PP.val (.slice (some ⟨g10, 0, none⟩) 5 5), PP.val (.bool true), PP.val (.bool true), PP.val (.agg #[.bool b, .slice ad5 l5 cap5, .slice bd5 m5 dap5]), PP.val (.int .i64 z), PP.val (.agg #[.bool b7, .slice ad7 l7 cap7, .slice bd7 m7 dap7]), PP.val (.int .i64 z), PP.val (.bool true), PP.val (.bool true), PP.val (.bool true), PP.val (.agg #[.bool b, .slice ad5 l5 cap5, .slice bd5 m5 dap5]), PP.val (.agg #[.bool c, .slice ad6 l6 cap6, .slice bd6 m6 dap6]), PP.val (.int .i64 p), PP.val (.agg #[.bool b7, .slice ad7 l7 cap7, .slice bd7 m7 dap7]), PP.val (.agg #[.bool b8, .slice ad8 l8 cap8, .slice bd8 m8 dap8]), PP.val (.int .i64 p), PP.val (.bool true), PP.val (.bool true), PP.val (.bool true)] [] [0, 1, 2, 3, 4, 5, 6, 7, 8, 9, 10, 11, 12, 13, 14, 15, 16, 17, 18, 19]
              (by kernel_rfl) (by kernel_rfl) (fun f => (by simp only [fillR, fillL, List.setIfInBounds_toArray, List.set_cons_succ, List.set_cons_zero, Nat.reduceAdd]; rfl)) ?_ ?_ ?_ ?_ ?_
            · intro x hx; cases hx
            · intro x hx; cases hx
            · intro x hx; cases hx
            · refine ⟨?o0, ?o1, ?o2, ?o3, ?o4, ?o5, ?o6, ?o7, ?o8, ?o9, ?o10, ?o11, ?o12, ?o13, ?o14, ?o15, ?o16, ?o17, ?o18, ?o19, trivial⟩
              case o0 =>
                intro f w8 hG hp hl
                have hE : Ext w7 w8 := hG
                have hS := hE.size
                simp only [OpGoal]
                go_simp
                exact ⟨_, rfl, Ext.refl _, rfl⟩
              case o1 =>
                intro f w8 hG hp hl
                have hE : Ext w7 w8 := hG
                have hS := hE.size
                simp only [OpGoal]
                go_simp
                exact ⟨_, rfl, Ext.refl _, rfl⟩
              case o2 =>
                intro f w8 hG hp hl
                have hE : Ext w7 w8 := hG
                have hS := hE.size
                have q59 : f 0 = .slice (some ⟨g9, 0, none⟩) 5 5 := tellV hp 0 0 rfl rfl (fun h => by cases h)
                have q60 : f 1 = .slice (some ⟨g10, 0, none⟩) 5 5 := tellV hp 1 1 rfl rfl (fun h => by cases h)
                change OpGoal _ _ _ f w8 Ext _
                refine og_call (P := Try.prog) _ _ _ #[f 0, f 1] Try.func51 (by kernel_rfl) (by kernel_rfl) rfl rfl (by kernel_rfl) ?_
                rw [q59, q60]
                refine (sameAll_calls _ _ _ _ _ _ (M9.ext hE) (L10.ext hE) (by simp)).mono ?_
                rintro e w' ⟨rfl, h2⟩
                exact ⟨_, rfl, h2, rfl⟩
              case o3 =>
                intro f w8 hG hp hl
                have hE : Ext w7 w8 := hG
                have hS := hE.size
                have q61 : f 2 = .bool true := tellV hp 0 2 rfl rfl (fun h => by cases h)
                simp only [OpGoal]
                go_simp
                exact ⟨_, rfl, Ext.refl _, rfl⟩
              case o4 =>
                intro f w8 hG hp hl
                have hE : Ext w7 w8 := hG
                have hS := hE.size
                have qg : f 3 = .bool true := tellV hp 0 3 rfl rfl (fun h => by cases h)
                change OpGoal _ _ _ f w8 Ext _
                refine og_guard (j := 3) (want := true) rfl qg ?_
                change OpGoal _ _ _ f w8 Ext _
                exact og_load (P := Try.prog) _ _ ga5 _ _ _ rfl rfl rfl (G5.ext hE) Try.underlying28 rfl (by kernel_rfl) rfl
              case o5 =>
                intro f w8 hG hp hl
                have hE : Ext w7 w8 := hG
                have hS := hE.size
                have q63 : f 4 = .agg #[.bool b, .slice ad5 l5 cap5, .slice bd5 m5 dap5] := tellV hp 0 4 rfl rfl (fun h => by cases h)
                have qg : f 3 = .bool true := tellV hp 1 3 rfl rfl (fun h => by cases h)
                change OpGoal _ _ _ f w8 Ext _
                refine og_guard (j := 3) (want := true) rfl qg ?_
                change OpGoal _ _ _ f w8 Ext _
                refine og_call (P := Try.prog) _ _ _ #[f 4] Try.func45 (by kernel_rfl) (by kernel_rfl) rfl rfl (by kernel_rfl) ?_
                rw [q63]
                refine (rsign_calls _ x 12 _ (RX.out _ _ (FrR.raw (V5.ext hE)))).mono ?_
                rintro e w' ⟨rfl, h2⟩
                exact ⟨_, rfl, h2, congrArg (Value.int .i64) Hz.out⟩
              case o6 =>
                intro f w8 hG hp hl
                have hE : Ext w7 w8 := hG
                have hS := hE.size
                have qg : f 3 = .bool true := tellV hp 0 3 rfl rfl (fun h => by cases h)
                change OpGoal _ _ _ f w8 Ext _
                refine og_guard (j := 3) (want := true) rfl qg ?_
                change OpGoal _ _ _ f w8 Ext _
                exact og_load (P := Try.prog) _ _ ga7 _ _ _ rfl rfl rfl (G7.ext hE) Try.underlying40 rfl (by kernel_rfl) rfl
              case o7 =>
                intro f w8 hG hp hl
                have hE : Ext w7 w8 := hG
                have hS := hE.size
                have q65 : f 6 = .agg #[.bool b7, .slice ad7 l7 cap7, .slice bd7 m7 dap7] := tellV hp 0 6 rfl rfl (fun h => by cases h)
                have qg : f 3 = .bool true := tellV hp 2 3 rfl rfl (fun h => by cases h)
                change OpGoal _ _ _ f w8 Ext _
                refine og_guard (j := 3) (want := true) rfl qg ?_
                change OpGoal _ _ _ f w8 Ext _
                refine og_call (P := Try.prog) _ _ _ #[f 6] Try.func39 (by kernel_rfl) (by kernel_rfl) rfl rfl (by kernel_rfl) ?_
                rw [q65]
                refine (rqsign3_calls _ x _ (W7.ext hE)).mono ?_
                rintro e w' ⟨rfl, h2⟩
                exact ⟨_, rfl, h2, congrArg (Value.int .i64) Hz.out⟩
              case o8 =>
                intro f w8 hG hp hl
                have hE : Ext w7 w8 := hG
                have hS := hE.size
                have q64 : f 5 = .int .i64 z := tellV hp 0 5 rfl rfl (fun h => by cases h)
                have q66 : f 7 = .int .i64 z := tellV hp 1 7 rfl rfl (fun h => by cases h)
                have qg : f 3 = .bool true := tellV hp 2 3 rfl rfl (fun h => by cases h)
                change OpGoal _ _ _ f w8 Ext _
                refine og_guard (j := 3) (want := true) rfl qg ?_
                simp only [OpGoal]
                go_simp
                exact ⟨_, rfl, Ext.refl _, rfl⟩
              case o9 =>
                intro f w8 hG hp hl
                have hE : Ext w7 w8 := hG
                have hS := hE.size
                have q62 : f 3 = .bool true := tellV hp 0 3 rfl rfl (fun h => by cases h)
                have q67 : f 8 = .bool true := tellV hp 1 8 rfl rfl (fun h => by cases h)
                simp only [OpGoal]
                go_simp
                exact ⟨_, rfl, Ext.refl _, rfl⟩
              case o10 =>
                intro f w8 hG hp hl
                have hE : Ext w7 w8 := hG
                have hS := hE.size
                have q68 : f 9 = .bool true := tellV hp 0 9 rfl rfl (fun h => by cases h)
                simp only [OpGoal]
                go_simp
                exact ⟨_, rfl, Ext.refl _, rfl⟩
              case o11 =>
                intro f w8 hG hp hl
                have hE : Ext w7 w8 := hG
                have hS := hE.size
                have qg : f 10 = .bool true := tellV hp 0 10 rfl rfl (fun h => by cases h)
                change OpGoal _ _ _ f w8 Ext _
                refine og_guard (j := 10) (want := true) rfl qg ?_
                change OpGoal _ _ _ f w8 Ext _
                exact og_load (P := Try.prog) _ _ ga5 _ _ _ rfl rfl rfl (G5.ext hE) Try.underlying28 rfl (by kernel_rfl) rfl
              case o12 =>
                intro f w8 hG hp hl
                have hE : Ext w7 w8 := hG
                have hS := hE.size
                have qg : f 10 = .bool true := tellV hp 0 10 rfl rfl (fun h => by cases h)
                change OpGoal _ _ _ f w8 Ext _
                refine og_guard (j := 10) (want := true) rfl qg ?_
                change OpGoal _ _ _ f w8 Ext _
                exact og_load (P := Try.prog) _ _ ga6 _ _ _ rfl rfl rfl (G6.ext hE) Try.underlying28 rfl (by kernel_rfl) rfl
              case o13 =>
                intro f w8 hG hp hl
                have hE : Ext w7 w8 := hG
                have hS := hE.size
                have q70 : f 11 = .agg #[.bool b, .slice ad5 l5 cap5, .slice bd5 m5 dap5] := tellV hp 0 11 rfl rfl (fun h => by cases h)
                have q71 : f 12 = .agg #[.bool c, .slice ad6 l6 cap6, .slice bd6 m6 dap6] := tellV hp 1 12 rfl rfl (fun h => by cases h)
                have qg : f 10 = .bool true := tellV hp 2 10 rfl rfl (fun h => by cases h)
                change OpGoal _ _ _ f w8 Ext _
                refine og_guard (j := 10) (want := true) rfl qg ?_
                change OpGoal _ _ _ f w8 Ext _
                refine og_call (P := Try.prog) _ _ _ #[f 11, f 12] Try.func41 (by kernel_rfl) (by kernel_rfl) rfl rfl (by kernel_rfl) ?_
                rw [q70, q71]
                refine (rcmp_calls _ _ x y 12 12 _ (RX.out _ _ (FrR.raw (V5.ext hE))) (RY.out _ _ (FrR.raw (V6.ext hE))) (by omega)).mono ?_
                rintro e w' ⟨rfl, h2⟩
                exact ⟨_, rfl, h2, congrArg (Value.int .i64) Hp.out⟩
              case o14 =>
                intro f w8 hG hp hl
                have hE : Ext w7 w8 := hG
                have hS := hE.size
                have qg : f 10 = .bool true := tellV hp 0 10 rfl rfl (fun h => by cases h)
                change OpGoal _ _ _ f w8 Ext _
                refine og_guard (j := 10) (want := true) rfl qg ?_
                change OpGoal _ _ _ f w8 Ext _
                exact og_load (P := Try.prog) _ _ ga7 _ _ _ rfl rfl rfl (G7.ext hE) Try.underlying40 rfl (by kernel_rfl) rfl
              case o15 =>
                intro f w8 hG hp hl
                have hE : Ext w7 w8 := hG
                have hS := hE.size
                have qg : f 10 = .bool true := tellV hp 0 10 rfl rfl (fun h => by cases h)
                change OpGoal _ _ _ f w8 Ext _
                refine og_guard (j := 10) (want := true) rfl qg ?_
                change OpGoal _ _ _ f w8 Ext _
                exact og_load (P := Try.prog) _ _ ga8 _ _ _ rfl rfl rfl (G8.ext hE) Try.underlying40 rfl (by kernel_rfl) rfl
              case o16 =>
                intro f w8 hG hp hl
                have hE : Ext w7 w8 := hG
                have hS := hE.size
                have q73 : f 14 = .agg #[.bool b7, .slice ad7 l7 cap7, .slice bd7 m7 dap7] := tellV hp 0 14 rfl rfl (fun h => by cases h)
                have q74 : f 15 = .agg #[.bool b8, .slice ad8 l8 cap8, .slice bd8 m8 dap8] := tellV hp 1 15 rfl rfl (fun h => by cases h)
                have qg : f 10 = .bool true := tellV hp 3 10 rfl rfl (fun h => by cases h)
                change OpGoal _ _ _ f w8 Ext _
                refine og_guard (j := 10) (want := true) rfl qg ?_
                change OpGoal _ _ _ f w8 Ext _
                refine og_call (P := Try.prog) _ _ _ #[f 14, f 15] Try.func52 (by kernel_rfl) (by kernel_rfl) rfl rfl (by kernel_rfl) ?_
                rw [q73, q74]
                refine (rqcmp3_calls _ _ x y 60 60 _ (W7.ext hE) (W8.ext hE) hxD hyD (by omega)).mono ?_
                rintro e w' ⟨rfl, h2⟩
                exact ⟨_, rfl, h2, congrArg (Value.int .i64) Hp.out⟩
              case o17 =>
                intro f w8 hG hp hl
                have hE : Ext w7 w8 := hG
                have hS := hE.size
                have q72 : f 13 = .int .i64 p := tellV hp 0 13 rfl rfl (fun h => by cases h)
                have q75 : f 16 = .int .i64 p := tellV hp 1 16 rfl rfl (fun h => by cases h)
                have qg : f 10 = .bool true := tellV hp 2 10 rfl rfl (fun h => by cases h)
                change OpGoal _ _ _ f w8 Ext _
                refine og_guard (j := 10) (want := true) rfl qg ?_
                simp only [OpGoal]
                go_simp
                exact ⟨_, rfl, Ext.refl _, rfl⟩
              case o18 =>
                intro f w8 hG hp hl
                have hE : Ext w7 w8 := hG
                have hS := hE.size
                have q69 : f 10 = .bool true := tellV hp 0 10 rfl rfl (fun h => by cases h)
                have q76 : f 17 = .bool true := tellV hp 1 17 rfl rfl (fun h => by cases h)
                simp only [OpGoal]
                go_simp
                exact ⟨_, rfl, Ext.refl _, rfl⟩
              case o19 =>
                intro f w8 hG hp hl
                have hE : Ext w7 w8 := hG
                have hS := hE.size
                have q77 : f 18 = .bool true := tellV hp 0 18 rfl rfl (fun h => by cases h)
                simp only [OpGoal]
                go_simp
                exact ⟨_, rfl, Ext.refl _, rfl⟩
            · intro f w8 hG hp
              have hE : Ext w7 w8 := ChgS.nil hG
              have q11 : f 19 = .bool true := endV hp 19 (by decide) rfl (fun h => by cases h)
              try simp only [q11]
              clear hp
              have E8 := E7.trans hE
              have J1 := G1.ext hE
              have J2 := G2.ext hE
              have J5 := G5.ext hE
              have J6 := G6.ext hE
              have N9 := M9.ext hE
              have T8 := T7.trans hE
              clear hE G1 G2 G5 G6 G7 G8 V5 V6 W7 W8 M9 L10
              obtain ⟨-, hN9⟩ := N9.hurt
              go_wp2_with fail
              go_loopw [80] (fun i wr => ∃ k : Nat, k ≤ 5 ∧ i = .int .i64 (k : Int) ∧ Hurt w5.heap.size w8 wr) (fun i _ => (5 - intOf i).toNat)
              case atStart => exact ⟨0, Nat.zero_le _, rfl, (Ext.refl w8).hurts _⟩
              case round =>
                obtain ⟨k, hk, rfl, hH⟩ := hrel
                rcases Nat.eq_or_lt_of_le hk with hkl | hkl
                · subst hkl
                  have X4 := T8.hurt hH T5.size
                  have X0 := E8.hurt hH E5.size
                  have I1 := J1.hurt hH (by decide)
                  have I2 := J2.hurt hH (by decide)
                  have I5 := J5.hurt hH (by decide)
                  have I6 := J6.hurt hH (by decide)
                  have Z5 := q5.ext X4
                  have Z6 := q6.ext X4
                  have Za := Hv.out.ext X0
                  have Zb := Hu.out.ext X0
                  clear J1 J2 J5 J6 N9 hN9 hH
                  have hc0 := I5.cell 0
                  have hc1 := I5.cell 1
                  have hc2 := I5.cell 2
                  have hd0 := I1.cell 0
                  have hd1 := I1.cell 1
                  have hd2 := I1.cell 2
                  go_wp2_with fail
                  refine (rqsame3_calls _ _ b b xs ys xs ys _ (FrR.raw Z5) Za).mono ?_
                  rw [show decide ((b = b ∧ xs = xs) ∧ ys = ys) = true from decide_eq_true ⟨⟨rfl, rfl⟩, rfl⟩]
                  rintro e w9 ⟨rfl, e9⟩
                  clear hc0 hc1 hc2 hd0 hd1 hd2
                  have hc0 := (I6.ext e9).cell 0
                  have hc1 := (I6.ext e9).cell 1
                  have hc2 := (I6.ext e9).cell 2
                  have hd0 := (I2.ext e9).cell 0
                  have hd1 := (I2.ext e9).cell 1
                  have hd2 := (I2.ext e9).cell 2
                  go_wp2_with fail
                  refine (rqsame3_calls _ _ c c xs2 ys2 xs2 ys2 _ (FrR.raw (Z6.ext e9)) (Zb.ext e9)).mono ?_
                  rw [show decide ((c = c ∧ xs2 = xs2) ∧ ys2 = ys2) = true from decide_eq_true ⟨⟨rfl, rfl⟩, rfl⟩]
                  rintro e w10 ⟨rfl, e10⟩
                  go_wp2
                  go_ret
                  exact ⟨rfl, X0.trans (e9.trans e10)⟩
                · obtain ⟨bk, sk, tk, ck, fk⟩ := hN9 _ hH k hkl
                  obtain ⟨ak, lk, pk, ak2, lk2, pk2, rfl, rfl⟩ := fk.opn
                  have c0 : wr.cell? ⟨g9, k * 3, none⟩ = some (.bool bk) := ck 0 _ rfl
                  have c1 : wr.cell? ⟨g9, k * 3 + 1, none⟩ = some (.slice ak lk pk) := ck 1 _ rfl
                  have c2 : wr.cell? ⟨g9, k * 3 + 2, none⟩ = some (.slice ak2 lk2 pk2) := ck 2 _ rfl
                  obtain ⟨wx, hwx, ex, bx, sx⟩ := alloc1 wr #[.bool bk, .slice ak lk pk, .slice ak2 lk2 pk2] 28
                  clear ck J1 J2 J5 J6 N9 hN9
                  go_wp2_with fail
                  rw [← hwx]
                  clear c0 c1 c2
                  refine (spoil_calls _ w5.heap.size _ (fk.hurt (ex.hurts w5.heap.size))).mono ?_
                  rintro e w9 ⟨rfl, e9⟩
                  go_wp2
                  go_roundw
                  case rel => exact ⟨k + 1, by omega, by simp, (hH.trans (ex.hurts _)).trans e9⟩
                  case measure => simp [intOf]; omega
end Go.Proofs.Ytnefipinicfegaa
