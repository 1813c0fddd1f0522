/-
  The law RatMakes returns true, whatever its two whole numbers are.
-/
import Derived.Test.YtnefipinicfegaaSpoil
namespace Go.Proofs.Ytnefipinicfegaa
open Go.RowKit
set_option linter.unusedVariables false
set_option linter.unusedSimpArgs false

set_option maxRecDepth 100000 in
set_option maxHeartbeats 1000000 in
theorem FrI.opn {B0 : Nat} {w : World} {v : Value} {b : Bool} {xs : List Nat} (h : FrI B0 w v b xs) : ∃ ad l cap, v = .agg #[.bool b, .slice ad l cap] ∧ FrI B0 w (.agg #[.bool b, .slice ad l cap]) b xs := by
  have h' := h
  obtain ⟨s, rfl, ⟨ad, cap, rfl, -⟩⟩ := h
  exact ⟨_, _, _, rfl, h'⟩
set_option maxRecDepth 100000 in
set_option maxHeartbeats 1000000 in
theorem FrI.raw {B0 : Nat} {w : World} {v : Value} {b : Bool} {xs : List Nat} (h : FrI B0 w v b xs) : RawI w v b xs := by
  obtain ⟨s, h1, h2⟩ := h
  exact ⟨s, h1, FrL.isL h2⟩
set_option maxRecDepth 100000 in
set_option maxHeartbeats 1000000 in
theorem FrI.ext {B0 : Nat} {w w' : World} {v : Value} {b : Bool} {xs : List Nat} (h : FrI B0 w v b xs) (he : Ext w w') : FrI B0 w' v b xs := by
  obtain ⟨s, h1, h2⟩ := h
  exact ⟨s, h1, h2.ext he⟩
set_option maxRecDepth 100000 in
set_option maxHeartbeats 1000000 in
theorem FrI.mono {B0 B1 : Nat} {w : World} {v : Value} {b : Bool} {xs : List Nat} (h : FrI B0 w v b xs) (hB : B1 ≤ B0) : FrI B1 w v b xs := by
  obtain ⟨s, h1, h2⟩ := h
  exact ⟨s, h1, h2.mono hB⟩
set_option maxRecDepth 100000 in
set_option maxHeartbeats 1000000 in
theorem FrZd.opn {B0 : Nat} {w : World} {v : Value} {z : Int} (h : FrZd B0 w v z) : ∃ b ad l cap, v = .agg #[.bool b, .slice ad l cap] ∧ FrZd B0 w (.agg #[.bool b, .slice ad l cap]) z := by
  have h' := h
  obtain ⟨s, rfl, hn⟩ := h
  obtain ⟨ad, cap, rfl⟩ := hn.slice
  exact ⟨_, _, _, _, rfl, h'⟩
set_option maxRecDepth 100000 in
set_option maxHeartbeats 1000000 in
theorem RawI.isZ {w : World} {v : Value} {b : Bool} {xs : List Nat} (h : RawI w v b xs) (dx : Dig W xs) (h1 : xs.length ≤ LIM) : IsZ w v (rawN b xs) := by
  obtain ⟨s, rfl, hs⟩ := h
  exact ⟨b, s, val W xs, rfl, ⟨xs, hs, h1, dx, rfl⟩, rfl⟩
set_option maxRecDepth 100000 in
set_option maxHeartbeats 1000000 in
theorem RawI.opn2 {w : World} {v : Value} {b : Bool} {xs : List Nat} (h : RawI w v b xs) : ∃ ad n cap, n = xs.length ∧ v = .agg #[.bool b, .slice ad n cap] := by
  obtain ⟨s, rfl, ⟨ad, cap, rfl, _⟩⟩ := h
  exact ⟨_, _, _, rfl, rfl⟩
set_option maxRecDepth 100000 in
set_option maxHeartbeats 1000000 in
theorem rawN_szT {b : Bool} {xs : List Nat} (dx : Dig W xs) : szT (rawN b xs) ≤ 5 * xs.length := by
  have a2 := rawN_sz (b := b) dx
  have a4 : szT (rawN b xs) ≤ 5 * szZ (rawN b xs) := szTK_le _
  omega

set_option maxRecDepth 100000 in
set_option maxHeartbeats 4000000 in
theorem ratMakes_calls (v u : Value) (b c : Bool) (xs ys : List Nat) (w : World) (hv : RawI w v b xs) (hu : RawI w u c ys) (dx : Dig W xs) (dy : Dig W ys)
    (hl1 : xs.length ≤ 9223372036854775807) (hl2 : ys.length ≤ 9223372036854775807) :
    Calls Try.prog 3 #[v, u] w fun e w' => e = .returned (.bool true) ∧ Ext w w' := by
  have Hv := Lib.hid hv
  have Hu := Lib.hid hu
  obtain ⟨ad, n1, cap, hn1, rfl⟩ := hv.opn2
  obtain ⟨bd, n2, dap, hn2, rfl⟩ := hu.opn2
  rw [← hn1] at hl1
  rw [← hn2] at hl2
  have Hn1 := Lib.hid hn1
  have Hn2 := Lib.hid hn2
  clear hv hu hn1 hn2
  go_enter Try.func3, Try.ntmps3
  obtain ⟨w1, hw1, e1, b1, b2, s1⟩ := alloc2 w #[.bool b, .slice ad n1 cap] #[.bool c, .slice bd n2 dap] 24 24
  go_wp2_with fail
  rw [← hw1]
  refine (speaks_calls _).mono ?_
  rintro e w2 ⟨rfl, e2⟩
  have B1 := b1.ext e2
  have B2 := b2.ext e2
  have E := e1.trans e2
  have hc0 := B1.cell 0
  have hc1 := B1.cell 1
  have hd0 := B2.cell 0
  have hd1 := B2.cell 1
  by_cases hg1 : 8 < n1
  · have hg1' : (8 : Int) < (n1 : Int) := by omega
    go_wp2
    go_ret
    exact ⟨rfl, E⟩
  by_cases hg2 : 8 < n2
  · have hg1' : ¬ (8 : Int) < (n1 : Int) := by omega
    have hg2' : (8 : Int) < (n2 : Int) := by omega
    go_wp2
    go_ret
    exact ⟨rfl, E⟩
  have hg1' : ¬ (8 : Int) < (n1 : Int) := by omega
  have hg2' : ¬ (8 : Int) < (n2 : Int) := by omega
  have X1 : xs.length ≤ 8 := by rw [← Hn1.out]; omega
  have X2 : ys.length ≤ 8 := by rw [← Hn2.out]; omega
  have lim : (8 : Nat) ≤ LIM := by rw [LIM_eq]; omega
  obtain ⟨x, hx⟩ : ∃ x, x = rawN b xs := ⟨_, rfl⟩
  obtain ⟨y, hy⟩ : ∃ y, y = rawN c ys := ⟨_, rfl⟩
  have ZX := Lib.hid (show ∀ wz vz, RawI wz vz b xs → IsZ wz vz x from fun wz vz h => by rw [hx]; exact h.isZ dx (by omega))
  have ZY := Lib.hid (show ∀ wz vz, RawI wz vz c ys → IsZ wz vz y from fun wz vz h => by rw [hy]; exact h.isZ dy (by omega))
  have hxZ : szZ x ≤ 8 := by have := rawN_sz (b := b) dx; rw [hx]; omega
  have hyZ : szZ y ≤ 8 := by have := rawN_sz (b := c) dy; rw [hy]; omega
  have hxT : szT x ≤ 40 := by have := rawN_szT (b := b) dx; rw [hx]; omega
  have hyT : szT y ≤ 40 := by have := rawN_szT (b := c) dy; rw [hy]; omega
  have hxD := szD_int x
  clear hx hy hc0 hc1 hd0 hd1 dx dy
  have hc0 := B1.cell 0
  have hc1 := B1.cell 1
  have hd0 := B2.cell 0
  have hd1 := B2.cell 1
  go_wp2_with fail
  clear hc0 hc1 hd0 hd1
  refine wp_region_als [⟨4, 24, 2, #[.bool false, .slice none 0 0]⟩, ⟨5, 24, 2, #[.bool false, .slice none 0 0]⟩] [⟨6, ⟨4, 24, 2, #[.bool false, .slice none 0 0]⟩, PA.frI b xs⟩, ⟨7, ⟨5, 24, 2, #[.bool false, .slice none 0 0]⟩, PA.frI c ys⟩] [PA.val (.agg #[.bool b, .slice ad n1 cap]), PA.frI b xs, PA.val (.agg #[.bool c, .slice bd n2 dap]), PA.frI c ys, PA.any, PA.any, PA.any, PA.any]
    (by kernel_rfl) (by kernel_rfl) (fun f => (by simp only [fillR, fillL, List.setIfInBounds_toArray, List.set_cons_succ, List.set_cons_zero, Nat.reduceAdd]; rfl)) ?_ ?_ ?_ ?_ ?_
  · intro x hx; simp only [List.mem_cons, List.not_mem_nil, or_false] at hx; rcases hx with rfl | rfl
    · exact ⟨rfl, rfl, by decide, by decide, rfl, noInt2 _ _ _ _⟩
    · exact ⟨rfl, rfl, by decide, by decide, rfl, noInt2 _ _ _ _⟩
  · intro x hx; simp only [List.mem_cons, List.not_mem_nil, or_false] at hx; rcases hx with rfl | rfl <;> exact ⟨rfl, rfl, by simp⟩
  · intro x hx y hy h; simp only [List.mem_cons, List.not_mem_nil, or_false] at hx hy; rcases hx with rfl | rfl <;> rcases hy with rfl | rfl
    · exact absurd rfl h
    · show 4 ≠ 5; decide
    · show 5 ≠ 4; decide
    · exact absurd rfl h
  · refine ⟨?o0, ?o1, ?o2, ?o3, ?o4, ?o5, ?o6, ?o7, trivial⟩
    case o0 =>
      intro f w4 hE hp
      have hS := hE.size
      change OpGoal _ _ _ f w4 Ext _
      exact og_load (P := Try.prog) _ _ w.heap.size _ _ _ rfl rfl rfl (B1.ext hE) Try.underlying24 rfl (by kernel_rfl) rfl
    case o1 =>
      intro f w4 hE hp
      have hS := hE.size
      have q25 : f 0 = .agg #[.bool b, .slice ad n1 cap] := tellA hp 0 0 rfl rfl rfl
      change OpGoal _ _ _ f w4 Ext _
      refine og_call (P := Try.prog) _ _ _ #[f 0] Try.func12 (by kernel_rfl) (by kernel_rfl) rfl rfl (by kernel_rfl) ?_
      rw [q25]
      refine (zcopy2_calls _ b xs _ (Hv.out.ext (E.trans hE)) (by omega)).mono ?_
      rintro e w' ⟨v', rfl, h1, h2⟩
      exact ⟨v', rfl, h2, h1.mono hS⟩
    case o2 =>
      intro f w4 hE hp
      have hS := hE.size
      change OpGoal _ _ _ f w4 Ext _
      exact og_load (P := Try.prog) _ _ (w.heap.size + 1) _ _ _ rfl rfl rfl (B2.ext hE) Try.underlying24 rfl (by kernel_rfl) rfl
    case o3 =>
      intro f w4 hE hp
      have hS := hE.size
      have q27 : f 2 = .agg #[.bool c, .slice bd n2 dap] := tellA hp 0 2 rfl rfl rfl
      change OpGoal _ _ _ f w4 Ext _
      refine og_call (P := Try.prog) _ _ _ #[f 2] Try.func12 (by kernel_rfl) (by kernel_rfl) rfl rfl (by kernel_rfl) ?_
      rw [q27]
      refine (zcopy2_calls _ c ys _ (Hu.out.ext (E.trans hE)) (by omega)).mono ?_
      rintro e w' ⟨v', rfl, h1, h2⟩
      exact ⟨v', rfl, h2, h1.mono hS⟩
    case o4 =>
      intro f w4 hE hp
      have hS := hE.size
      change OpGoal _ _ _ f w4 (fun a b => b = a.alloc _) _
      exact og_alloc (P := Try.prog) _ _ (.agg #[.bool false, .slice none 0 0]) rfl rfl (by kernel_rfl) rfl
    case o5 =>
      intro f w4 hE hp
      have hS := hE.size
      change OpGoal _ _ _ f w4 (fun a b => b = a.alloc _) _
      exact og_alloc (P := Try.prog) _ _ (.agg #[.bool false, .slice none 0 0]) rfl rfl (by kernel_rfl) rfl
    case o6 =>
      intro f w4 hE hp
      have hS := hE.size
      have q26 := tellA hp 1 1 rfl rfl rfl
      intro g old hfa hSg hbx hsz hno
      change OpGoal _ _ _ f w4 (Chg g) _
      obtain ⟨cells, hv, hcs, hc1, hcn⟩ := FrI.parts q26
      exact og_storeA (P := Try.prog) (PA.frI b xs) 2 _ _ _ g _ old cells rfl rfl hfa hv hbx (by rw [hcs]; kernel_rfl) hsz hcs hc1 hSg (show 24 ≠ 79 by decide) (show 24 ≠ 3 by decide) hno hcn (hv ▸ q26)
    case o7 =>
      intro f w4 hE hp
      have hS := hE.size
      have q28 := tellA hp 1 3 rfl rfl rfl
      intro g old hfa hSg hbx hsz hno
      change OpGoal _ _ _ f w4 (Chg g) _
      obtain ⟨cells, hv, hcs, hc1, hcn⟩ := FrI.parts q28
      exact og_storeA (P := Try.prog) (PA.frI c ys) 2 _ _ _ g _ old cells rfl rfl hfa hv hbx (by rw [hcs]; kernel_rfl) hsz hcs hc1 hSg (show 24 ≠ 79 by decide) (show 24 ≠ 3 by decide) hno hcn (hv ▸ q28)
  · intro f w4 hE hp hal
    obtain ⟨ga5, ca5, fa5, la5, ba5, na5, pa5⟩ := hal ⟨4, 24, 2, #[.bool false, .slice none 0 0]⟩ (by simp) (by decide)
    dsimp only at fa5 la5 ba5 na5
    have za5 := pa5 ⟨6, ⟨4, 24, 2, #[.bool false, .slice none 0 0]⟩, PA.frI b xs⟩ (by simp) (by show 6 < 8; decide) rfl rfl
    clear pa5
    obtain ⟨ga6, ca6, fa6, la6, ba6, na6, pa6⟩ := hal ⟨5, 24, 2, #[.bool false, .slice none 0 0]⟩ (by simp) (by decide)
    dsimp only at fa6 la6 ba6 na6
    have za6 := pa6 ⟨7, ⟨5, 24, 2, #[.bool false, .slice none 0 0]⟩, PA.frI c ys⟩ (by simp) (by show 7 < 8; decide) rfl rfl
    clear pa6
    clear hp hal
    obtain ⟨ad5, l5, cap5, hv5, q5⟩ := FrI.opn za5
    cases hv5
    obtain ⟨ad6, l6, cap6, hv6, q6⟩ := FrI.opn za6
    cases hv6
    have E4 := E.trans hE
    have A2 := B1.ext hE
    have A3 := B2.ext hE
    clear B1 B2
    have hc0 := ba5.cell 0
    have hc1 := ba5.cell 1
    have hd0 := ba6.cell 0
    have hd1 := ba6.cell 1
    by_cases hy0 : y = 0
    · have hys : y.sign = 0 := by rw [hy0]; rfl
      have Hy0 := Lib.hid hy0
      clear hy0
      go_wp2_with fail
      refine (rmake_zero _ _ x _ (ZX.out _ _ q5.raw) (Hy0.out ▸ ZY.out _ _ q6.raw)).mono ?_
      rintro e w5 ⟨rfl, e5⟩
      unfold zeroQ
      obtain ⟨w6, hw6, e6, B7, s6⟩ := alloc1 w5 #[.bool false, .slice none 0 0, .slice none 0 0] 28
      have N6 := e5.trans e6
      have B2 := A2.ext N6
      have B3 := A3.ext N6
      have B5 := ba5.ext N6
      have B6 := ba6.ext N6
      have Q5 := q5.ext N6
      have Q6 := q6.ext N6
      have E6 := E4.trans N6
      clear hc0 hc1 hd0 hd1
      go_wp2_with fail
      rw [← hw6]
      refine wp_region_als [⟨4, 34, 2, #[.bool false, .slice none 0 0]⟩, ⟨5, 34, 2, #[.bool false, .slice none 0 0]⟩] [⟨6, ⟨4, 34, 2, #[.bool false, .slice none 0 0]⟩, PA.frZd x⟩, ⟨7, ⟨5, 34, 2, #[.bool false, .slice none 0 0]⟩, PA.frZd y⟩] [PA.val (.agg #[.bool b, .slice ad n1 cap]), PA.frZd x, PA.val (.agg #[.bool c, .slice bd n2 dap]), PA.frZd y, PA.any, PA.any, PA.any, PA.any]
        (by kernel_rfl) (by kernel_rfl) (fun f => (by simp only [fillR, fillL, List.setIfInBounds_toArray, List.set_cons_succ, List.set_cons_zero, Nat.reduceAdd]; rfl)) ?_ ?_ ?_ ?_ ?_
      · intro x hx; simp only [List.mem_cons, List.not_mem_nil, or_false] at hx; rcases hx with rfl | rfl
        · exact ⟨rfl, rfl, by decide, by decide, rfl, noInt2 _ _ _ _⟩
        · exact ⟨rfl, rfl, by decide, by decide, rfl, noInt2 _ _ _ _⟩
      · intro x hx; simp only [List.mem_cons, List.not_mem_nil, or_false] at hx; rcases hx with rfl | rfl <;> exact ⟨rfl, rfl, by simp⟩
      · intro x hx y hy h; simp only [List.mem_cons, List.not_mem_nil, or_false] at hx hy; rcases hx with rfl | rfl <;> rcases hy with rfl | rfl
        · exact absurd rfl h
        · show 4 ≠ 5; decide
        · show 5 ≠ 4; decide
        · exact absurd rfl h
      · refine ⟨?o0, ?o1, ?o2, ?o3, ?o4, ?o5, ?o6, ?o7, trivial⟩
        case o0 =>
          intro f w7 hE hp
          have hS := hE.size
          change OpGoal _ _ _ f w7 Ext _
          exact og_load (P := Try.prog) _ _ w.heap.size _ _ _ rfl rfl rfl (B2.ext hE) Try.underlying24 rfl (by kernel_rfl) rfl
        case o1 =>
          intro f w7 hE hp
          have hS := hE.size
          have q35 : f 0 = .agg #[.bool b, .slice ad n1 cap] := tellA hp 0 0 rfl rfl rfl
          change OpGoal _ _ _ f w7 Ext _
          refine og_call (P := Try.prog) _ _ _ #[f 0] Try.func14 (by kernel_rfl) (by kernel_rfl) rfl rfl (by kernel_rfl) ?_
          rw [q35]
          refine (zof2_calls _ x _ (ZX.out _ _ (Hv.out.ext (E6.trans hE))) (by omega)).mono ?_
          rintro e w' ⟨v', rfl, h1, h2⟩
          exact ⟨v', rfl, h2, h1.mono hS⟩
        case o2 =>
          intro f w7 hE hp
          have hS := hE.size
          change OpGoal _ _ _ f w7 Ext _
          exact og_load (P := Try.prog) _ _ (w.heap.size + 1) _ _ _ rfl rfl rfl (B3.ext hE) Try.underlying24 rfl (by kernel_rfl) rfl
        case o3 =>
          intro f w7 hE hp
          have hS := hE.size
          have q37 : f 2 = .agg #[.bool c, .slice bd n2 dap] := tellA hp 0 2 rfl rfl rfl
          change OpGoal _ _ _ f w7 Ext _
          refine og_call (P := Try.prog) _ _ _ #[f 2] Try.func14 (by kernel_rfl) (by kernel_rfl) rfl rfl (by kernel_rfl) ?_
          rw [q37]
          refine (zof2_calls _ y _ (ZY.out _ _ (Hu.out.ext (E6.trans hE))) (by omega)).mono ?_
          rintro e w' ⟨v', rfl, h1, h2⟩
          exact ⟨v', rfl, h2, h1.mono hS⟩
        case o4 =>
          intro f w7 hE hp
          have hS := hE.size
          change OpGoal _ _ _ f w7 (fun a b => b = a.alloc _) _
          exact og_alloc (P := Try.prog) _ _ (.agg #[.bool false, .slice none 0 0]) rfl rfl (by kernel_rfl) rfl
        case o5 =>
          intro f w7 hE hp
          have hS := hE.size
          change OpGoal _ _ _ f w7 (fun a b => b = a.alloc _) _
          exact og_alloc (P := Try.prog) _ _ (.agg #[.bool false, .slice none 0 0]) rfl rfl (by kernel_rfl) rfl
        case o6 =>
          intro f w7 hE hp
          have hS := hE.size
          have q36 := tellA hp 1 1 rfl rfl rfl
          intro g old hfa hSg hbx hsz hno
          change OpGoal _ _ _ f w7 (Chg g) _
          obtain ⟨cells, hv, hcs, hc1, hcn⟩ := FrZd.parts q36
          exact og_storeA (P := Try.prog) (PA.frZd x) 2 _ _ _ g _ old cells rfl rfl hfa hv hbx (by rw [hcs]; kernel_rfl) hsz hcs hc1 hSg (show 34 ≠ 79 by decide) (show 34 ≠ 3 by decide) hno hcn (hv ▸ q36)
        case o7 =>
          intro f w7 hE hp
          have hS := hE.size
          have q38 := tellA hp 1 3 rfl rfl rfl
          intro g old hfa hSg hbx hsz hno
          change OpGoal _ _ _ f w7 (Chg g) _
          obtain ⟨cells, hv, hcs, hc1, hcn⟩ := FrZd.parts q38
          exact og_storeA (P := Try.prog) (PA.frZd y) 2 _ _ _ g _ old cells rfl rfl hfa hv hbx (by rw [hcs]; kernel_rfl) hsz hcs hc1 hSg (show 34 ≠ 79 by decide) (show 34 ≠ 3 by decide) hno hcn (hv ▸ q38)
      · intro f w7 hE hp hal
        obtain ⟨ga9, ca9, fa9, la9, ba9, na9, pa9⟩ := hal ⟨4, 34, 2, #[.bool false, .slice none 0 0]⟩ (by simp) (by decide)
        dsimp only at fa9 la9 ba9 na9
        have za9 := pa9 ⟨6, ⟨4, 34, 2, #[.bool false, .slice none 0 0]⟩, PA.frZd x⟩ (by simp) (by show 6 < 8; decide) rfl rfl
        clear pa9
        obtain ⟨ga10, ca10, fa10, la10, ba10, na10, pa10⟩ := hal ⟨5, 34, 2, #[.bool false, .slice none 0 0]⟩ (by simp) (by decide)
        dsimp only at fa10 la10 ba10 na10
        have za10 := pa10 ⟨7, ⟨5, 34, 2, #[.bool false, .slice none 0 0]⟩, PA.frZd y⟩ (by simp) (by show 7 < 8; decide) rfl rfl
        clear pa10
        clear hp hal
        obtain ⟨c9, ad9, l9, cap9, hv9, z9⟩ := FrZd.opn za9
        cases hv9
        obtain ⟨c10, ad10, l10, cap10, hv10, z10⟩ := FrZd.opn za10
        cases hv10
        have K2 := B2.ext hE
        have K3 := B3.ext hE
        have K5 := B5.ext hE
        have K6 := B6.ext hE
        have K7 := B7.ext hE
        have P5 := Q5.ext hE
        have P6 := Q6.ext hE
        have E7 := E6.trans hE
        have N7 := N6.trans hE
        have T7 := hE
        have hk0 := K5.cell 0
        have hk1 := K5.cell 1
        go_wp2_with fail
        refine (rofint_calls _ x _ (ZX.out _ _ P5.raw) (by omega)).mono ?_
        rintro e w8 ⟨v8, rfl, q8, e8⟩
        obtain ⟨c8, ad8, l8, cap8, bd8, m8, dap8, rfl, q8⟩ := q8.opn
        obtain ⟨w9, hw9, e9, b9, s9⟩ := alloc1 w8 #[.bool c8, .slice ad8 l8 cap8, .slice bd8 m8 dap8] 28
        have F9 := e8.trans e9
        have J2 := K2.ext F9
        have J3 := K3.ext F9
        have J5 := K5.ext F9
        have J6 := K6.ext F9
        have J7 := K7.ext F9
        have J9 := ba9.ext F9
        have J10 := ba10.ext F9
        have S5 := P5.ext F9
        have S6 := P6.ext F9
        have Z9 := z9.ext F9
        have Z10 := z10.ext F9
        have Q8 := q8.ext e9
        have E9 := E7.trans F9
        have N9 := N7.trans F9
        have T9 := T7.trans F9
        clear hk0 hk1
        go_wp2_with fail
        rw [← hw9]
        refine wp_region_puts [] [PP.val (.agg #[.bool c8, .slice ad8 l8 cap8, .slice bd8 m8 dap8]), PP.val (.agg #[.bool c9, .slice ad9 l9 cap9]), PP.frQd (x : Rat), PP.frQ (x : Rat), PP.val (.bool true), PP.val (.bool false), PP.val (.bool false), PP.val (.agg #[.bool b, .slice ad5 l5 cap5]), PP.val (.agg #[.bool b, .slice ad n1 cap]), PP.val (.bool true), PP.val (.bool false), PP.val (.bool false), PP.val (.bool false), PP.val (.agg #[.bool c, .slice ad6 l6 cap6]), PP.val (.agg #[.bool c, .slice bd n2 dap]), PP.val (.bool true), PP.val (.bool false), PP.val (.bool false)] [] [0, 1, 2, 3, 4, 5, 6, 7, 8, 9, 10, 11, 12, 13, 14, 15, 16, 17]
          (by kernel_rfl) (by kernel_rfl) (fun f => (by simp only [fillR, fillL, List.setIfInBounds_toArray, List.set_cons_succ, List.set_cons_zero, Nat.reduceAdd]; rfl)) ?_ ?_ ?_ ?_ ?_
        · intro x hx; cases hx
        · intro x hx; cases hx
        · intro x hx; cases hx
        · refine ⟨?o0, ?o1, ?o2, ?o3, ?o4, ?o5, ?o6, ?o7, ?o8, ?o9, ?o10, ?o11, ?o12, ?o13, ?o14, ?o15, ?o16, ?o17, trivial⟩
          case o0 =>
            intro f w10 hG hp hl
            have hE : Ext w9 w10 := hG
            have hS := hE.size
            change OpGoal _ _ _ f w10 Ext _
            exact og_load (P := Try.prog) _ _ w8.heap.size _ _ _ rfl rfl rfl (b9.ext hE) Try.underlying28 rfl (by kernel_rfl) rfl
          case o1 =>
            intro f w10 hG hp hl
            have hE : Ext w9 w10 := hG
            have hS := hE.size
            change OpGoal _ _ _ f w10 Ext _
            exact og_load (P := Try.prog) _ _ ga9 _ _ _ rfl rfl rfl (J9.ext hE) Try.underlying34 rfl (by kernel_rfl) rfl
          case o2 =>
            intro f w10 hG hp hl
            have hE : Ext w9 w10 := hG
            have hS := hE.size
            have q42 : f 1 = .agg #[.bool c9, .slice ad9 l9 cap9] := tellV hp 0 1 rfl rfl (fun h => by cases h)
            change OpGoal _ _ _ f w10 Ext _
            refine og_call (P := Try.prog) _ _ _ #[f 1] Try.func18 (by kernel_rfl) (by kernel_rfl) rfl rfl (by kernel_rfl) ?_
            rw [q42]
            refine (rqwhole3_calls _ x _ (Z9.cz.ext hE) (by omega)).mono ?_
            rintro e w' ⟨v', rfl, h1, h2⟩
            exact ⟨v', rfl, h2, h1.mono hS⟩
          case o3 =>
            intro f w10 hG hp hl
            have hE : Ext w9 w10 := hG
            have hS := hE.size
            have q43 := tellV hp 0 2 rfl rfl (fun _ => hE)
            change OpGoal _ _ _ f w10 Ext _
            refine og_call (P := Try.prog) _ _ _ #[f 2] Try.func17 (by kernel_rfl) (by kernel_rfl) rfl rfl (by kernel_rfl) ?_
            refine (rqto3_calls _ _ _ q43.cq (by omega)).mono ?_
            rintro e w' ⟨v', rfl, h1, h2⟩
            exact ⟨v', rfl, h2, h1.mono hS⟩
          case o4 =>
            intro f w10 hG hp hl
            have hE : Ext w9 w10 := hG
            have hS := hE.size
            have q41 : f 0 = .agg #[.bool c8, .slice ad8 l8 cap8, .slice bd8 m8 dap8] := tellV hp 0 0 rfl rfl (fun h => by cases h)
            have q44 := tellV hp 1 3 rfl rfl (fun _ => hE)
            change OpGoal _ _ _ f w10 Ext _
            refine og_call (P := Try.prog) _ _ _ #[f 0, f 3] Try.func16 (by kernel_rfl) (by kernel_rfl) rfl rfl (by kernel_rfl) ?_
            rw [q41]
            refine (same_true _ _ _ _ _ _ (Q8.ext hE) q44).mono ?_
            rintro e w' ⟨rfl, h2⟩
            exact ⟨_, rfl, h2, rfl⟩
          case o5 =>
            intro f w10 hG hp hl
            have hE : Ext w9 w10 := hG
            have hS := hE.size
            have q45 : f 4 = .bool true := tellV hp 0 4 rfl rfl (fun h => by cases h)
            simp only [OpGoal]
            go_simp
            exact ⟨_, rfl, Ext.refl _, rfl⟩
          case o6 =>
            intro f w10 hG hp hl
            have hE : Ext w9 w10 := hG
            have hS := hE.size
            have q46 : f 5 = .bool false := tellV hp 0 5 rfl rfl (fun h => by cases h)
            simp only [OpGoal]
            go_simp
            exact ⟨_, rfl, Ext.refl _, rfl⟩
          case o7 =>
            intro f w10 hG hp hl
            have hE : Ext w9 w10 := hG
            have hS := hE.size
            have qg : f 6 = .bool false := tellV hp 0 6 rfl rfl (fun h => by cases h)
            change OpGoal _ _ _ f w10 Ext _
            refine og_guard (j := 6) (want := false) rfl qg ?_
            change OpGoal _ _ _ f w10 Ext _
            exact og_load (P := Try.prog) _ _ ga5 _ _ _ rfl rfl rfl (J5.ext hE) Try.underlying24 rfl (by kernel_rfl) rfl
          case o8 =>
            intro f w10 hG hp hl
            have hE : Ext w9 w10 := hG
            have hS := hE.size
            have qg : f 6 = .bool false := tellV hp 0 6 rfl rfl (fun h => by cases h)
            change OpGoal _ _ _ f w10 Ext _
            refine og_guard (j := 6) (want := false) rfl qg ?_
            change OpGoal _ _ _ f w10 Ext _
            exact og_load (P := Try.prog) _ _ w.heap.size _ _ _ rfl rfl rfl (J2.ext hE) Try.underlying24 rfl (by kernel_rfl) rfl
          case o9 =>
            intro f w10 hG hp hl
            have hE : Ext w9 w10 := hG
            have hS := hE.size
            have q48 : f 7 = .agg #[.bool b, .slice ad5 l5 cap5] := tellV hp 0 7 rfl rfl (fun h => by cases h)
            have q49 : f 8 = .agg #[.bool b, .slice ad n1 cap] := tellV hp 1 8 rfl rfl (fun h => by cases h)
            have qg : f 6 = .bool false := tellV hp 2 6 rfl rfl (fun h => by cases h)
            change OpGoal _ _ _ f w10 Ext _
            refine og_guard (j := 6) (want := false) rfl qg ?_
            change OpGoal _ _ _ f w10 Ext _
            refine og_call (P := Try.prog) _ _ _ #[f 7, f 8] Try.func19 (by kernel_rfl) (by kernel_rfl) rfl rfl (by kernel_rfl) ?_
            rw [q48, q49]
            refine (zsame2_calls _ _ b b xs xs _ (S5.ext hE).raw (Hv.out.ext (E9.trans hE))).mono ?_
            rintro e w' ⟨rfl, h2⟩
            exact ⟨_, rfl, h2, congrArg Value.bool (decide_eq_true ⟨rfl, rfl⟩)⟩
          case o10 =>
            intro f w10 hG hp hl
            have hE : Ext w9 w10 := hG
            have hS := hE.size
            have q50 : f 9 = .bool true := tellV hp 0 9 rfl rfl (fun h => by cases h)
            have qg : f 6 = .bool false := tellV hp 1 6 rfl rfl (fun h => by cases h)
            change OpGoal _ _ _ f w10 Ext _
            refine og_guard (j := 6) (want := false) rfl qg ?_
            simp only [OpGoal]
            go_simp
            exact ⟨_, rfl, Ext.refl _, rfl⟩
          case o11 =>
            intro f w10 hG hp hl
            have hE : Ext w9 w10 := hG
            have hS := hE.size
            have q47 : f 6 = .bool false := tellV hp 0 6 rfl rfl (fun h => by cases h)
            have q51 : f 10 = .bool false := tellV hp 1 10 rfl rfl (fun h => by cases h)
            simp only [OpGoal]
            go_simp
            exact ⟨_, rfl, Ext.refl _, rfl⟩
          case o12 =>
            intro f w10 hG hp hl
            have hE : Ext w9 w10 := hG
            have hS := hE.size
            have q52 : f 11 = .bool false := tellV hp 0 11 rfl rfl (fun h => by cases h)
            simp only [OpGoal]
            go_simp
            exact ⟨_, rfl, Ext.refl _, rfl⟩
          case o13 =>
            intro f w10 hG hp hl
            have hE : Ext w9 w10 := hG
            have hS := hE.size
            have qg : f 12 = .bool false := tellV hp 0 12 rfl rfl (fun h => by cases h)
            change OpGoal _ _ _ f w10 Ext _
            refine og_guard (j := 12) (want := false) rfl qg ?_
            change OpGoal _ _ _ f w10 Ext _
            exact og_load (P := Try.prog) _ _ ga6 _ _ _ rfl rfl rfl (J6.ext hE) Try.underlying24 rfl (by kernel_rfl) rfl
          case o14 =>
            intro f w10 hG hp hl
            have hE : Ext w9 w10 := hG
            have hS := hE.size
            have qg : f 12 = .bool false := tellV hp 0 12 rfl rfl (fun h => by cases h)
            change OpGoal _ _ _ f w10 Ext _
            refine og_guard (j := 12) (want := false) rfl qg ?_
            change OpGoal _ _ _ f w10 Ext _
            exact og_load (P := Try.prog) _ _ (w.heap.size + 1) _ _ _ rfl rfl rfl (J3.ext hE) Try.underlying24 rfl (by kernel_rfl) rfl
          case o15 =>
            intro f w10 hG hp hl
            have hE : Ext w9 w10 := hG
            have hS := hE.size
            have q54 : f 13 = .agg #[.bool c, .slice ad6 l6 cap6] := tellV hp 0 13 rfl rfl (fun h => by cases h)
            have q55 : f 14 = .agg #[.bool c, .slice bd n2 dap] := tellV hp 1 14 rfl rfl (fun h => by cases h)
            have qg : f 12 = .bool false := tellV hp 2 12 rfl rfl (fun h => by cases h)
            change OpGoal _ _ _ f w10 Ext _
            refine og_guard (j := 12) (want := false) rfl qg ?_
            change OpGoal _ _ _ f w10 Ext _
            refine og_call (P := Try.prog) _ _ _ #[f 13, f 14] Try.func19 (by kernel_rfl) (by kernel_rfl) rfl rfl (by kernel_rfl) ?_
            rw [q54, q55]
            refine (zsame2_calls _ _ c c ys ys _ (S6.ext hE).raw (Hu.out.ext (E9.trans hE))).mono ?_
            rintro e w' ⟨rfl, h2⟩
            exact ⟨_, rfl, h2, congrArg Value.bool (decide_eq_true ⟨rfl, rfl⟩)⟩
          case o16 =>
            intro f w10 hG hp hl
            have hE : Ext w9 w10 := hG
            have hS := hE.size
            have q56 : f 15 = .bool true := tellV hp 0 15 rfl rfl (fun h => by cases h)
            have qg : f 12 = .bool false := tellV hp 1 12 rfl rfl (fun h => by cases h)
            change OpGoal _ _ _ f w10 Ext _
            refine og_guard (j := 12) (want := false) rfl qg ?_
            simp only [OpGoal]
            go_simp
            exact ⟨_, rfl, Ext.refl _, rfl⟩
          case o17 =>
            intro f w10 hG hp hl
            have hE : Ext w9 w10 := hG
            have hS := hE.size
            have q53 : f 12 = .bool false := tellV hp 0 12 rfl rfl (fun h => by cases h)
            have q57 : f 16 = .bool false := tellV hp 1 16 rfl rfl (fun h => by cases h)
            simp only [OpGoal]
            go_simp
            exact ⟨_, rfl, Ext.refl _, rfl⟩
        · intro f w10 hG hp
          have hE : Ext w9 w10 := ChgS.nil hG
          have q58 : f 17 = .bool false := endV hp 17 (by decide) rfl (fun h => by cases h)
          try simp only [q58]
          clear hp
          have M2 := J2.ext hE
          have M3 := J3.ext hE
          have M5 := J5.ext hE
          have M6 := J6.ext hE
          have M7 := J7.ext hE
          have M9 := J9.ext hE
          have M10 := J10.ext hE
          have M11 := b9.ext hE
          have T5 := S5.ext hE
          have T6 := S6.ext hE
          have Y9 := Z9.ext hE
          have Y10 := Z10.ext hE
          have R8 := Q8.ext hE
          have E10 := E9.trans hE
          have N10 := N9.trans hE
          have T10 := T9.trans hE
          have hk0 := M10.cell 0
          have hk1 := M10.cell 1
          go_wp2_with fail
          refine (zsign2_calls _ y _ Y10.cz).mono ?_
          rintro e w11 ⟨rfl, e11⟩
          clear hk0 hk1
          have E11 := E10.trans e11
          have N11 := N10.trans e11
          have T11 := T10.trans e11
          have hk0 := (M7.ext e11).cell 0
          have hk1 := (M7.ext e11).cell 1
          have hk2 := (M7.ext e11).cell 2
          go_wp2_with fail
          refine (rqsame3_calls _ _ _ _ _ _ _ _ _ (zeroQ.raw w11) (zeroQ.raw w11)).mono ?_
          rintro e w12 ⟨rfl, e12⟩
          go_wp2
          go_ret
          exact ⟨by simp, E11.trans e12⟩
    · have hys : ¬ y.sign = 0 := fun h => hy0 (Int.sign_eq_zero_iff_zero.1 h)
      have Hy0 := Lib.hid hy0
      have hqD := szD_divInt x y hy0
      clear hy0
      go_wp2_with fail
      refine (rmake_calls _ _ x y _ (ZX.out _ _ q5.raw) (ZY.out _ _ q6.raw) Hy0.out (by omega) (by omega)).mono ?_
      rintro e w5 ⟨v7, rfl, q7, e5⟩
      obtain ⟨c7, ad7, l7, cap7, bd7, m7, dap7, rfl, q7⟩ := q7.opn
      obtain ⟨w6, hw6, e6, B7, s6⟩ := alloc1 w5 #[.bool c7, .slice ad7 l7 cap7, .slice bd7 m7 dap7] 28
      have N6 := e5.trans e6
      have B2 := A2.ext N6
      have B3 := A3.ext N6
      have B5 := ba5.ext N6
      have B6 := ba6.ext N6
      have Q5 := q5.ext N6
      have Q6 := q6.ext N6
      have E6 := E4.trans N6
      clear hc0 hc1 hd0 hd1
      go_wp2_with fail
      rw [← hw6]
      refine wp_region_als [⟨4, 34, 2, #[.bool false, .slice none 0 0]⟩, ⟨5, 34, 2, #[.bool false, .slice none 0 0]⟩] [⟨6, ⟨4, 34, 2, #[.bool false, .slice none 0 0]⟩, PA.frZd x⟩, ⟨7, ⟨5, 34, 2, #[.bool false, .slice none 0 0]⟩, PA.frZd y⟩] [PA.val (.agg #[.bool b, .slice ad n1 cap]), PA.frZd x, PA.val (.agg #[.bool c, .slice bd n2 dap]), PA.frZd y, PA.any, PA.any, PA.any, PA.any]
        (by kernel_rfl) (by kernel_rfl) (fun f => (by simp only [fillR, fillL, List.setIfInBounds_toArray, List.set_cons_succ, List.set_cons_zero, Nat.reduceAdd]; rfl)) ?_ ?_ ?_ ?_ ?_
      · intro x hx; simp only [List.mem_cons, List.not_mem_nil, or_false] at hx; rcases hx with rfl | rfl
        · exact ⟨rfl, rfl, by decide, by decide, rfl, noInt2 _ _ _ _⟩
        · exact ⟨rfl, rfl, by decide, by decide, rfl, noInt2 _ _ _ _⟩
      · intro x hx; simp only [List.mem_cons, List.not_mem_nil, or_false] at hx; rcases hx with rfl | rfl <;> exact ⟨rfl, rfl, by simp⟩
      · intro x hx y hy h; simp only [List.mem_cons, List.not_mem_nil, or_false] at hx hy; rcases hx with rfl | rfl <;> rcases hy with rfl | rfl
        · exact absurd rfl h
        · show 4 ≠ 5; decide
        · show 5 ≠ 4; decide
        · exact absurd rfl h
      · refine ⟨?o0, ?o1, ?o2, ?o3, ?o4, ?o5, ?o6, ?o7, trivial⟩
        case o0 =>
          intro f w7 hE hp
          have hS := hE.size
          change OpGoal _ _ _ f w7 Ext _
          exact og_load (P := Try.prog) _ _ w.heap.size _ _ _ rfl rfl rfl (B2.ext hE) Try.underlying24 rfl (by kernel_rfl) rfl
        case o1 =>
          intro f w7 hE hp
          have hS := hE.size
          have q35 : f 0 = .agg #[.bool b, .slice ad n1 cap] := tellA hp 0 0 rfl rfl rfl
          change OpGoal _ _ _ f w7 Ext _
          refine og_call (P := Try.prog) _ _ _ #[f 0] Try.func14 (by kernel_rfl) (by kernel_rfl) rfl rfl (by kernel_rfl) ?_
          rw [q35]
          refine (zof2_calls _ x _ (ZX.out _ _ (Hv.out.ext (E6.trans hE))) (by omega)).mono ?_
          rintro e w' ⟨v', rfl, h1, h2⟩
          exact ⟨v', rfl, h2, h1.mono hS⟩
        case o2 =>
          intro f w7 hE hp
          have hS := hE.size
          change OpGoal _ _ _ f w7 Ext _
          exact og_load (P := Try.prog) _ _ (w.heap.size + 1) _ _ _ rfl rfl rfl (B3.ext hE) Try.underlying24 rfl (by kernel_rfl) rfl
        case o3 =>
          intro f w7 hE hp
          have hS := hE.size
          have q37 : f 2 = .agg #[.bool c, .slice bd n2 dap] := tellA hp 0 2 rfl rfl rfl
          change OpGoal _ _ _ f w7 Ext _
          refine og_call (P := Try.prog) _ _ _ #[f 2] Try.func14 (by kernel_rfl) (by kernel_rfl) rfl rfl (by kernel_rfl) ?_
          rw [q37]
          refine (zof2_calls _ y _ (ZY.out _ _ (Hu.out.ext (E6.trans hE))) (by omega)).mono ?_
          rintro e w' ⟨v', rfl, h1, h2⟩
          exact ⟨v', rfl, h2, h1.mono hS⟩
        case o4 =>
          intro f w7 hE hp
          have hS := hE.size
          change OpGoal _ _ _ f w7 (fun a b => b = a.alloc _) _
          exact og_alloc (P := Try.prog) _ _ (.agg #[.bool false, .slice none 0 0]) rfl rfl (by kernel_rfl) rfl
        case o5 =>
          intro f w7 hE hp
          have hS := hE.size
          change OpGoal _ _ _ f w7 (fun a b => b = a.alloc _) _
          exact og_alloc (P := Try.prog) _ _ (.agg #[.bool false, .slice none 0 0]) rfl rfl (by kernel_rfl) rfl
        case o6 =>
          intro f w7 hE hp
          have hS := hE.size
          have q36 := tellA hp 1 1 rfl rfl rfl
          intro g old hfa hSg hbx hsz hno
          change OpGoal _ _ _ f w7 (Chg g) _
          obtain ⟨cells, hv, hcs, hc1, hcn⟩ := FrZd.parts q36
          exact og_storeA (P := Try.prog) (PA.frZd x) 2 _ _ _ g _ old cells rfl rfl hfa hv hbx (by rw [hcs]; kernel_rfl) hsz hcs hc1 hSg (show 34 ≠ 79 by decide) (show 34 ≠ 3 by decide) hno hcn (hv ▸ q36)
        case o7 =>
          intro f w7 hE hp
          have hS := hE.size
          have q38 := tellA hp 1 3 rfl rfl rfl
          intro g old hfa hSg hbx hsz hno
          change OpGoal _ _ _ f w7 (Chg g) _
          obtain ⟨cells, hv, hcs, hc1, hcn⟩ := FrZd.parts q38
          exact og_storeA (P := Try.prog) (PA.frZd y) 2 _ _ _ g _ old cells rfl rfl hfa hv hbx (by rw [hcs]; kernel_rfl) hsz hcs hc1 hSg (show 34 ≠ 79 by decide) (show 34 ≠ 3 by decide) hno hcn (hv ▸ q38)
      · intro f w7 hE hp hal
        obtain ⟨ga9, ca9, fa9, la9, ba9, na9, pa9⟩ := hal ⟨4, 34, 2, #[.bool false, .slice none 0 0]⟩ (by simp) (by decide)
        dsimp only at fa9 la9 ba9 na9
        have za9 := pa9 ⟨6, ⟨4, 34, 2, #[.bool false, .slice none 0 0]⟩, PA.frZd x⟩ (by simp) (by show 6 < 8; decide) rfl rfl
        clear pa9
        obtain ⟨ga10, ca10, fa10, la10, ba10, na10, pa10⟩ := hal ⟨5, 34, 2, #[.bool false, .slice none 0 0]⟩ (by simp) (by decide)
        dsimp only at fa10 la10 ba10 na10
        have za10 := pa10 ⟨7, ⟨5, 34, 2, #[.bool false, .slice none 0 0]⟩, PA.frZd y⟩ (by simp) (by show 7 < 8; decide) rfl rfl
        clear pa10
        clear hp hal
        obtain ⟨c9, ad9, l9, cap9, hv9, z9⟩ := FrZd.opn za9
        cases hv9
        obtain ⟨c10, ad10, l10, cap10, hv10, z10⟩ := FrZd.opn za10
        cases hv10
        have K2 := B2.ext hE
        have K3 := B3.ext hE
        have K5 := B5.ext hE
        have K6 := B6.ext hE
        have K7 := B7.ext hE
        have P5 := Q5.ext hE
        have P6 := Q6.ext hE
        have E7 := E6.trans hE
        have N7 := N6.trans hE
        have T7 := hE
        have hk0 := K5.cell 0
        have hk1 := K5.cell 1
        go_wp2_with fail
        refine (rofint_calls _ x _ (ZX.out _ _ P5.raw) (by omega)).mono ?_
        rintro e w8 ⟨v8, rfl, q8, e8⟩
        obtain ⟨c8, ad8, l8, cap8, bd8, m8, dap8, rfl, q8⟩ := q8.opn
        obtain ⟨w9, hw9, e9, b9, s9⟩ := alloc1 w8 #[.bool c8, .slice ad8 l8 cap8, .slice bd8 m8 dap8] 28
        have F9 := e8.trans e9
        have J2 := K2.ext F9
        have J3 := K3.ext F9
        have J5 := K5.ext F9
        have J6 := K6.ext F9
        have J7 := K7.ext F9
        have J9 := ba9.ext F9
        have J10 := ba10.ext F9
        have S5 := P5.ext F9
        have S6 := P6.ext F9
        have Z9 := z9.ext F9
        have Z10 := z10.ext F9
        have Q8 := q8.ext e9
        have E9 := E7.trans F9
        have N9 := N7.trans F9
        have T9 := T7.trans F9
        clear hk0 hk1
        go_wp2_with fail
        rw [← hw9]
        refine wp_region_puts [] [PP.val (.agg #[.bool c8, .slice ad8 l8 cap8, .slice bd8 m8 dap8]), PP.val (.agg #[.bool c9, .slice ad9 l9 cap9]), PP.frQd (x : Rat), PP.frQ (x : Rat), PP.val (.bool true), PP.val (.bool false), PP.val (.bool false), PP.val (.agg #[.bool b, .slice ad5 l5 cap5]), PP.val (.agg #[.bool b, .slice ad n1 cap]), PP.val (.bool true), PP.val (.bool false), PP.val (.bool false), PP.val (.bool false), PP.val (.agg #[.bool c, .slice ad6 l6 cap6]), PP.val (.agg #[.bool c, .slice bd n2 dap]), PP.val (.bool true), PP.val (.bool false), PP.val (.bool false)] [] [0, 1, 2, 3, 4, 5, 6, 7, 8, 9, 10, 11, 12, 13, 14, 15, 16, 17]
          (by kernel_rfl) (by kernel_rfl) (fun f => (by simp only [fillR, fillL, List.setIfInBounds_toArray, List.set_cons_succ, List.set_cons_zero, Nat.reduceAdd]; rfl)) ?_ ?_ ?_ ?_ ?_
        · intro x hx; cases hx
        · intro x hx; cases hx
        · intro x hx; cases hx
        · refine ⟨?o0, ?o1, ?o2, ?o3, ?o4, ?o5, ?o6, ?o7, ?o8, ?o9, ?o10, ?o11, ?o12, ?o13, ?o14, ?o15, ?o16, ?o17, trivial⟩
          case o0 =>
            intro f w10 hG hp hl
            have hE : Ext w9 w10 := hG
            have hS := hE.size
            change OpGoal _ _ _ f w10 Ext _
            exact og_load (P := Try.prog) _ _ w8.heap.size _ _ _ rfl rfl rfl (b9.ext hE) Try.underlying28 rfl (by kernel_rfl) rfl
          case o1 =>
            intro f w10 hG hp hl
            have hE : Ext w9 w10 := hG
            have hS := hE.size
            change OpGoal _ _ _ f w10 Ext _
            exact og_load (P := Try.prog) _ _ ga9 _ _ _ rfl rfl rfl (J9.ext hE) Try.underlying34 rfl (by kernel_rfl) rfl
          case o2 =>
            intro f w10 hG hp hl
            have hE : Ext w9 w10 := hG
            have hS := hE.size
            have q42 : f 1 = .agg #[.bool c9, .slice ad9 l9 cap9] := tellV hp 0 1 rfl rfl (fun h => by cases h)
            change OpGoal _ _ _ f w10 Ext _
            refine og_call (P := Try.prog) _ _ _ #[f 1] Try.func18 (by kernel_rfl) (by kernel_rfl) rfl rfl (by kernel_rfl) ?_
            rw [q42]
            refine (rqwhole3_calls _ x _ (Z9.cz.ext hE) (by omega)).mono ?_
            rintro e w' ⟨v', rfl, h1, h2⟩
            exact ⟨v', rfl, h2, h1.mono hS⟩
          case o3 =>
            intro f w10 hG hp hl
            have hE : Ext w9 w10 := hG
            have hS := hE.size
            have q43 := tellV hp 0 2 rfl rfl (fun _ => hE)
            change OpGoal _ _ _ f w10 Ext _
            refine og_call (P := Try.prog) _ _ _ #[f 2] Try.func17 (by kernel_rfl) (by kernel_rfl) rfl rfl (by kernel_rfl) ?_
            refine (rqto3_calls _ _ _ q43.cq (by omega)).mono ?_
            rintro e w' ⟨v', rfl, h1, h2⟩
            exact ⟨v', rfl, h2, h1.mono hS⟩
          case o4 =>
            intro f w10 hG hp hl
            have hE : Ext w9 w10 := hG
            have hS := hE.size
            have q41 : f 0 = .agg #[.bool c8, .slice ad8 l8 cap8, .slice bd8 m8 dap8] := tellV hp 0 0 rfl rfl (fun h => by cases h)
            have q44 := tellV hp 1 3 rfl rfl (fun _ => hE)
            change OpGoal _ _ _ f w10 Ext _
            refine og_call (P := Try.prog) _ _ _ #[f 0, f 3] Try.func16 (by kernel_rfl) (by kernel_rfl) rfl rfl (by kernel_rfl) ?_
            rw [q41]
            refine (same_true _ _ _ _ _ _ (Q8.ext hE) q44).mono ?_
            rintro e w' ⟨rfl, h2⟩
            exact ⟨_, rfl, h2, rfl⟩
          case o5 =>
            intro f w10 hG hp hl
            have hE : Ext w9 w10 := hG
            have hS := hE.size
            have q45 : f 4 = .bool true := tellV hp 0 4 rfl rfl (fun h => by cases h)
            simp only [OpGoal]
            go_simp
            exact ⟨_, rfl, Ext.refl _, rfl⟩
          case o6 =>
            intro f w10 hG hp hl
            have hE : Ext w9 w10 := hG
            have hS := hE.size
            have q46 : f 5 = .bool false := tellV hp 0 5 rfl rfl (fun h => by cases h)
            simp only [OpGoal]
            go_simp
            exact ⟨_, rfl, Ext.refl _, rfl⟩
          case o7 =>
            intro f w10 hG hp hl
            have hE : Ext w9 w10 := hG
            have hS := hE.size
            have qg : f 6 = .bool false := tellV hp 0 6 rfl rfl (fun h => by cases h)
            change OpGoal _ _ _ f w10 Ext _
            refine og_guard (j := 6) (want := false) rfl qg ?_
            change OpGoal _ _ _ f w10 Ext _
            exact og_load (P := Try.prog) _ _ ga5 _ _ _ rfl rfl rfl (J5.ext hE) Try.underlying24 rfl (by kernel_rfl) rfl
          case o8 =>
            intro f w10 hG hp hl
            have hE : Ext w9 w10 := hG
            have hS := hE.size
            have qg : f 6 = .bool false := tellV hp 0 6 rfl rfl (fun h => by cases h)
            change OpGoal _ _ _ f w10 Ext _
            refine og_guard (j := 6) (want := false) rfl qg ?_
            change OpGoal _ _ _ f w10 Ext _
            exact og_load (P := Try.prog) _ _ w.heap.size _ _ _ rfl rfl rfl (J2.ext hE) Try.underlying24 rfl (by kernel_rfl) rfl
          case o9 =>
            intro f w10 hG hp hl
            have hE : Ext w9 w10 := hG
            have hS := hE.size
            have q48 : f 7 = .agg #[.bool b, .slice ad5 l5 cap5] := tellV hp 0 7 rfl rfl (fun h => by cases h)
            have q49 : f 8 = .agg #[.bool b, .slice ad n1 cap] := tellV hp 1 8 rfl rfl (fun h => by cases h)
            have qg : f 6 = .bool false := tellV hp 2 6 rfl rfl (fun h => by cases h)
            change OpGoal _ _ _ f w10 Ext _
            refine og_guard (j := 6) (want := false) rfl qg ?_
            change OpGoal _ _ _ f w10 Ext _
            refine og_call (P := Try.prog) _ _ _ #[f 7, f 8] Try.func19 (by kernel_rfl) (by kernel_rfl) rfl rfl (by kernel_rfl) ?_
            rw [q48, q49]
            refine (zsame2_calls _ _ b b xs xs _ (S5.ext hE).raw (Hv.out.ext (E9.trans hE))).mono ?_
            rintro e w' ⟨rfl, h2⟩
            exact ⟨_, rfl, h2, congrArg Value.bool (decide_eq_true ⟨rfl, rfl⟩)⟩
          case o10 =>
            intro f w10 hG hp hl
            have hE : Ext w9 w10 := hG
            have hS := hE.size
            have q50 : f 9 = .bool true := tellV hp 0 9 rfl rfl (fun h => by cases h)
            have qg : f 6 = .bool false := tellV hp 1 6 rfl rfl (fun h => by cases h)
            change OpGoal _ _ _ f w10 Ext _
            refine og_guard (j := 6) (want := false) rfl qg ?_
            simp only [OpGoal]
            go_simp
            exact ⟨_, rfl, Ext.refl _, rfl⟩
          case o11 =>
            intro f w10 hG hp hl
            have hE : Ext w9 w10 := hG
            have hS := hE.size
            have q47 : f 6 = .bool false := tellV hp 0 6 rfl rfl (fun h => by cases h)
            have q51 : f 10 = .bool false := tellV hp 1 10 rfl rfl (fun h => by cases h)
            simp only [OpGoal]
            go_simp
            exact ⟨_, rfl, Ext.refl _, rfl⟩
          case o12 =>
            intro f w10 hG hp hl
            have hE : Ext w9 w10 := hG
            have hS := hE.size
            have q52 : f 11 = .bool false := tellV hp 0 11 rfl rfl (fun h => by cases h)
            simp only [OpGoal]
            go_simp
            exact ⟨_, rfl, Ext.refl _, rfl⟩
          case o13 =>
            intro f w10 hG hp hl
            have hE : Ext w9 w10 := hG
            have hS := hE.size
            have qg : f 12 = .bool false := tellV hp 0 12 rfl rfl (fun h => by cases h)
            change OpGoal _ _ _ f w10 Ext _
            refine og_guard (j := 12) (want := false) rfl qg ?_
            change OpGoal _ _ _ f w10 Ext _
            exact og_load (P := Try.prog) _ _ ga6 _ _ _ rfl rfl rfl (J6.ext hE) Try.underlying24 rfl (by kernel_rfl) rfl
          case o14 =>
            intro f w10 hG hp hl
            have hE : Ext w9 w10 := hG
            have hS := hE.size
            have qg : f 12 = .bool false := tellV hp 0 12 rfl rfl (fun h => by cases h)
            change OpGoal _ _ _ f w10 Ext _
            refine og_guard (j := 12) (want := false) rfl qg ?_
            change OpGoal _ _ _ f w10 Ext _
            exact og_load (P := Try.prog) _ _ (w.heap.size + 1) _ _ _ rfl rfl rfl (J3.ext hE) Try.underlying24 rfl (by kernel_rfl) rfl
          case o15 =>
            intro f w10 hG hp hl
            have hE : Ext w9 w10 := hG
            have hS := hE.size
            have q54 : f 13 = .agg #[.bool c, .slice ad6 l6 cap6] := tellV hp 0 13 rfl rfl (fun h => by cases h)
            have q55 : f 14 = .agg #[.bool c, .slice bd n2 dap] := tellV hp 1 14 rfl rfl (fun h => by cases h)
            have qg : f 12 = .bool false := tellV hp 2 12 rfl rfl (fun h => by cases h)
            change OpGoal _ _ _ f w10 Ext _
            refine og_guard (j := 12) (want := false) rfl qg ?_
            change OpGoal _ _ _ f w10 Ext _
            refine og_call (P := Try.prog) _ _ _ #[f 13, f 14] Try.func19 (by kernel_rfl) (by kernel_rfl) rfl rfl (by kernel_rfl) ?_
            rw [q54, q55]
            refine (zsame2_calls _ _ c c ys ys _ (S6.ext hE).raw (Hu.out.ext (E9.trans hE))).mono ?_
            rintro e w' ⟨rfl, h2⟩
            exact ⟨_, rfl, h2, congrArg Value.bool (decide_eq_true ⟨rfl, rfl⟩)⟩
          case o16 =>
            intro f w10 hG hp hl
            have hE : Ext w9 w10 := hG
            have hS := hE.size
            have q56 : f 15 = .bool true := tellV hp 0 15 rfl rfl (fun h => by cases h)
            have qg : f 12 = .bool false := tellV hp 1 12 rfl rfl (fun h => by cases h)
            change OpGoal _ _ _ f w10 Ext _
            refine og_guard (j := 12) (want := false) rfl qg ?_
            simp only [OpGoal]
            go_simp
            exact ⟨_, rfl, Ext.refl _, rfl⟩
          case o17 =>
            intro f w10 hG hp hl
            have hE : Ext w9 w10 := hG
            have hS := hE.size
            have q53 : f 12 = .bool false := tellV hp 0 12 rfl rfl (fun h => by cases h)
            have q57 : f 16 = .bool false := tellV hp 1 16 rfl rfl (fun h => by cases h)
            simp only [OpGoal]
            go_simp
            exact ⟨_, rfl, Ext.refl _, rfl⟩
        · intro f w10 hG hp
          have hE : Ext w9 w10 := ChgS.nil hG
          have q58 : f 17 = .bool false := endV hp 17 (by decide) rfl (fun h => by cases h)
          try simp only [q58]
          clear hp
          have M2 := J2.ext hE
          have M3 := J3.ext hE
          have M5 := J5.ext hE
          have M6 := J6.ext hE
          have M7 := J7.ext hE
          have M9 := J9.ext hE
          have M10 := J10.ext hE
          have M11 := b9.ext hE
          have T5 := S5.ext hE
          have T6 := S6.ext hE
          have Y9 := Z9.ext hE
          have Y10 := Z10.ext hE
          have R8 := Q8.ext hE
          have E10 := E9.trans hE
          have N10 := N9.trans hE
          have T10 := T9.trans hE
          have hk0 := M10.cell 0
          have hk1 := M10.cell 1
          go_wp2_with fail
          refine (zsign2_calls _ y _ Y10.cz).mono ?_
          rintro e w11 ⟨rfl, e11⟩
          clear hk0 hk1
          have E11 := E10.trans e11
          have N11 := N10.trans e11
          have T11 := T10.trans e11
          have D7 := M7.ext e11
          have D9 := M9.ext e11
          have D10 := M10.ext e11
          have D11 := M11.ext e11
          have Y9c := Y9.cz.ext e11
          have Y10c := Y10.cz.ext e11
          have G7 := q7.ext (e6.trans T11)
          have R11 := R8.ext e11
          go_wp2_with fail
          refine wp_region_puts [] [PP.val (.int .i64 0), PP.val (.bool true), PP.val (.bool true), PP.val (.agg #[.bool c7, .slice ad7 l7 cap7, .slice bd7 m7 dap7]), PP.val (.agg #[.bool c9, .slice ad9 l9 cap9]), PP.val (.agg #[.bool c10, .slice ad10 l10 cap10]), PP.frQd (Rat.divInt x y), PP.frQ (Rat.divInt x y), PP.val (.bool true), PP.val (.bool true), PP.val (.bool true)] [] [0, 1, 2, 3, 4, 5, 6, 7, 8, 9, 10]
            (by kernel_rfl) (by kernel_rfl) (fun f => (by simp only [fillR, fillL, List.setIfInBounds_toArray, List.set_cons_succ, List.set_cons_zero, Nat.reduceAdd]; rfl)) ?_ ?_ ?_ ?_ ?_
          · intro x hx; cases hx
          · intro x hx; cases hx
          · intro x hx; cases hx
          · refine ⟨?o0, ?o1, ?o2, ?o3, ?o4, ?o5, ?o6, ?o7, ?o8, ?o9, ?o10, trivial⟩
            case o0 =>
              intro f w12 hG hp hl
              have hE : Ext w11 w12 := hG
              have hS := hE.size
              simp only [OpGoal]
              go_simp
              exact ⟨_, rfl, Ext.refl _, rfl⟩
            case o1 =>
              intro f w12 hG hp hl
              have hE : Ext w11 w12 := hG
              have hS := hE.size
              have q69 : f 0 = .int .i64 0 := tellV hp 0 0 rfl rfl (fun h => by cases h)
              simp only [OpGoal]
              go_simp
              exact ⟨_, rfl, Ext.refl _, rfl⟩
            case o2 =>
              intro f w12 hG hp hl
              have hE : Ext w11 w12 := hG
              have hS := hE.size
              have q70 : f 1 = .bool true := tellV hp 0 1 rfl rfl (fun h => by cases h)
              simp only [OpGoal]
              go_simp
              exact ⟨_, rfl, Ext.refl _, rfl⟩
            case o3 =>
              intro f w12 hG hp hl
              have hE : Ext w11 w12 := hG
              have hS := hE.size
              have qg : f 2 = .bool true := tellV hp 0 2 rfl rfl (fun h => by cases h)
              change OpGoal _ _ _ f w12 Ext _
              refine og_guard (j := 2) (want := true) rfl qg ?_
              change OpGoal _ _ _ f w12 Ext _
              exact og_load (P := Try.prog) _ _ w5.heap.size _ _ _ rfl rfl rfl (D7.ext hE) Try.underlying28 rfl (by kernel_rfl) rfl
            case o4 =>
              intro f w12 hG hp hl
              have hE : Ext w11 w12 := hG
              have hS := hE.size
              have qg : f 2 = .bool true := tellV hp 0 2 rfl rfl (fun h => by cases h)
              change OpGoal _ _ _ f w12 Ext _
              refine og_guard (j := 2) (want := true) rfl qg ?_
              change OpGoal _ _ _ f w12 Ext _
              exact og_load (P := Try.prog) _ _ ga9 _ _ _ rfl rfl rfl (D9.ext hE) Try.underlying34 rfl (by kernel_rfl) rfl
            case o5 =>
              intro f w12 hG hp hl
              have hE : Ext w11 w12 := hG
              have hS := hE.size
              have qg : f 2 = .bool true := tellV hp 0 2 rfl rfl (fun h => by cases h)
              change OpGoal _ _ _ f w12 Ext _
              refine og_guard (j := 2) (want := true) rfl qg ?_
              change OpGoal _ _ _ f w12 Ext _
              exact og_load (P := Try.prog) _ _ ga10 _ _ _ rfl rfl rfl (D10.ext hE) Try.underlying34 rfl (by kernel_rfl) rfl
            case o6 =>
              intro f w12 hG hp hl
              have hE : Ext w11 w12 := hG
              have hS := hE.size
              have q73 : f 4 = .agg #[.bool c9, .slice ad9 l9 cap9] := tellV hp 0 4 rfl rfl (fun h => by cases h)
              have q74 : f 5 = .agg #[.bool c10, .slice ad10 l10 cap10] := tellV hp 1 5 rfl rfl (fun h => by cases h)
              have qg : f 2 = .bool true := tellV hp 2 2 rfl rfl (fun h => by cases h)
              change OpGoal _ _ _ f w12 Ext _
              refine og_guard (j := 2) (want := true) rfl qg ?_
              change OpGoal _ _ _ f w12 Ext _
              refine og_call (P := Try.prog) _ _ _ #[f 4, f 5] Try.func21 (by kernel_rfl) (by kernel_rfl) rfl rfl (by kernel_rfl) ?_
              rw [q73, q74]
              refine (rqmake3_calls _ _ x y _ (Y9c.ext hE) (Y10c.ext hE) Hy0.out (by omega) (by omega)).mono ?_
              rintro e w' ⟨v', rfl, h1, h2⟩
              exact ⟨v', rfl, h2, h1.mono hS⟩
            case o7 =>
              intro f w12 hG hp hl
              have hE : Ext w11 w12 := hG
              have hS := hE.size
              have q75 := tellV hp 0 6 rfl rfl (fun _ => hE)
              have qg : f 2 = .bool true := tellV hp 2 2 rfl rfl (fun h => by cases h)
              change OpGoal _ _ _ f w12 Ext _
              refine og_guard (j := 2) (want := true) rfl qg ?_
              change OpGoal _ _ _ f w12 Ext _
              refine og_call (P := Try.prog) _ _ _ #[f 6] Try.func17 (by kernel_rfl) (by kernel_rfl) rfl rfl (by kernel_rfl) ?_
              refine (rqto3_calls _ _ _ q75.cq (by omega)).mono ?_
              rintro e w' ⟨v', rfl, h1, h2⟩
              exact ⟨v', rfl, h2, h1.mono hS⟩
            case o8 =>
              intro f w12 hG hp hl
              have hE : Ext w11 w12 := hG
              have hS := hE.size
              have q72 : f 3 = .agg #[.bool c7, .slice ad7 l7 cap7, .slice bd7 m7 dap7] := tellV hp 0 3 rfl rfl (fun h => by cases h)
              have q76 := tellV hp 1 7 rfl rfl (fun _ => hE)
              have qg : f 2 = .bool true := tellV hp 3 2 rfl rfl (fun h => by cases h)
              change OpGoal _ _ _ f w12 Ext _
              refine og_guard (j := 2) (want := true) rfl qg ?_
              change OpGoal _ _ _ f w12 Ext _
              refine og_call (P := Try.prog) _ _ _ #[f 3, f 7] Try.func16 (by kernel_rfl) (by kernel_rfl) rfl rfl (by kernel_rfl) ?_
              rw [q72]
              refine (same_true _ _ _ _ _ _ (G7.ext hE) q76).mono ?_
              rintro e w' ⟨rfl, h2⟩
              exact ⟨_, rfl, h2, rfl⟩
            case o9 =>
              intro f w12 hG hp hl
              have hE : Ext w11 w12 := hG
              have hS := hE.size
              have q71 : f 2 = .bool true := tellV hp 0 2 rfl rfl (fun h => by cases h)
              have q77 : f 8 = .bool true := tellV hp 1 8 rfl rfl (fun h => by cases h)
              simp only [OpGoal]
              go_simp
              exact ⟨_, rfl, Ext.refl _, rfl⟩
            case o10 =>
              intro f w12 hG hp hl
              have hE : Ext w11 w12 := hG
              have hS := hE.size
              have q78 : f 9 = .bool true := tellV hp 0 9 rfl rfl (fun h => by cases h)
              simp only [OpGoal]
              go_simp
              exact ⟨_, rfl, Ext.refl _, rfl⟩
          · intro f w12 hG hp
            have hE : Ext w11 w12 := ChgS.nil hG
            have q12 : f 10 = .bool true := endV hp 10 (by decide) rfl (fun h => by cases h)
            try simp only [q12]
            clear hp
            have E12 := N11.trans hE
            have V7 := G7.ext hE
            have V11 := (R11.ext hE).mono (show w4.heap.size ≤ _ from N7.size)
            have W7 := D7.ext hE
            have W11 := D11.ext hE
            have W2 := (M2.ext e11).ext hE
            have W3 := (M3.ext e11).ext hE
            have W5 := (M5.ext e11).ext hE
            have W6 := (M6.ext e11).ext hE
            have hk0 := W7.cell 0
            have hk1 := W7.cell 1
            have hk2 := W7.cell 2
            go_wp2_with fail
            refine (spoil_calls _ w4.heap.size _ V7.shp).mono ?_
            rintro e w13 ⟨rfl, e13⟩
            clear hk0 hk1 hk2
            have U11 := W11.hurt e13 (by decide)
            have hk0 := U11.cell 0
            have hk1 := U11.cell 1
            have hk2 := U11.cell 2
            go_wp2_with fail
            refine (spoil_calls _ w4.heap.size _ (V11.shp.hurt e13)).mono ?_
            rintro e w14 ⟨rfl, e14⟩
            clear hk0 hk1 hk2
            have e34 := e13.trans e14
            have E14 : Ext w4 w14 := E12.hurt e34 (Nat.le_refl _)
            have U2 := W2.hurt e34 (by decide)
            have U3 := W3.hurt e34 (by decide)
            have U5 := W5.hurt e34 (by decide)
            have U6 := W6.hurt e34 (by decide)
            have hk0 := U5.cell 0
            have hk1 := U5.cell 1
            have hd0 := U2.cell 0
            have hd1 := U2.cell 1
            go_wp2_with fail
            refine (zsame2_calls _ _ b b xs xs _ (q5.ext E14).raw (Hv.out.ext (E4.trans E14))).mono ?_
            rw [show decide (b = b ∧ xs = xs) = true from decide_eq_true ⟨rfl, rfl⟩]
            rintro e w15 ⟨rfl, e15⟩
            clear hk0 hk1 hd0 hd1
            have hk0 := (U6.ext e15).cell 0
            have hk1 := (U6.ext e15).cell 1
            have hd0 := (U3.ext e15).cell 0
            have hd1 := (U3.ext e15).cell 1
            go_wp2_with fail
            refine (zsame2_calls _ _ c c ys ys _ (q6.ext (E14.trans e15)).raw (Hu.out.ext ((E4.trans E14).trans e15))).mono ?_
            rw [show decide (c = c ∧ ys = ys) = true from decide_eq_true ⟨rfl, rfl⟩]
            rintro e w16 ⟨rfl, e16⟩
            go_wp2
            go_ret
            exact ⟨rfl, (E4.trans E14).trans (e15.trans e16)⟩
end Go.Proofs.Ytnefipinicfegaa
