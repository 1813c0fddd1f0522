/-
  The law RatCeils returns true, whatever its fraction is (of at most 2^44 - 512 words, which is all that an argument may have).
-/
import Derived.Test.YtnefipinicfegaaLawT
namespace Go.Proofs.Ytnefipinicfegaa
open Go.RowKit
set_option linter.unusedVariables false
set_option linter.unusedSimpArgs false

set_option maxRecDepth 100000 in
set_option maxHeartbeats 4000000 in
theorem ratCeils_calls (v : Value) (b : Bool) (xs ys : List Nat) (w : World) (hv : RawQ w v b xs ys) (dx : Dig W xs) (dy : Dig W ys) (h1 : xs.length ≤ 17592186043904) (h2 : ys.length ≤ 17592186043904) :
    Calls Try.prog 8 #[v] w fun e w' => e = .returned (.bool true) ∧ Ext w w' := by
  have Hv := Lib.hid (hv.isR dx dy 17592186043904 h1 h2 (by omega) (by rw [LIM_eq]; omega))
  obtain ⟨ad, n1, cap, ad2, n2, cap2, -, -, rfl⟩ := hv.opn2
  obtain ⟨x, hx⟩ : ∃ x, x = rawR b xs ys := ⟨_, rfl⟩
  rw [← hx] at Hv
  clear hv hx
  have hsx := Hv.out.sz
  obtain ⟨na, da, hqa, hxa, kna, kda⟩ := Hv.out
  have HvS := Lib.hid (show IsS w _ x (szZ na) (sz W da) from ⟨na, da, hqa, hxa, Nat.le_refl _, Nat.le_refl _⟩)
  have hfl : szZ x.floor + sz W da ≤ max (szZ na) (sz W da) + 2 := by rw [hxa]; exact floor_sz na da hqa.pos
  have hcl : szZ x.ceil + sz W da ≤ max (szZ na) (sz W da) + 2 := by rw [hxa]; exact ceil_sz na da hqa.pos
  generalize szZ na = ka at *
  generalize sz W da = kb at *
  clear hxa hqa
  have lim : (17592186043910 : Nat) ≤ LIM .u64 := by rw [LIM_eq]; omega
  have hfZ := szZ_floor x
  have hcZ := szZ_ceil x
  have hfQ := szQ_int x.floor
  have hcQ := szQ_int x.ceil
  go_enter Try.func8, Try.ntmps8
  obtain ⟨w1, hw1, e1, b1, s1⟩ := alloc1 w #[.bool b, .slice ad n1 cap, .slice ad2 n2 cap2] 28
  go_wp2_with fail
  rw [← hw1]
  refine (speaks_calls _).mono ?_
  rintro e w2 ⟨rfl, e2⟩
  have B1 := b1.ext e2
  have E := e1.trans e2
  have Rx := Hv.out.ext E
  go_wp2_with fail
  refine wp_region_als [⟨6, 28, 3, #[.bool false, .slice none 0 0, .slice none 0 0]⟩, ⟨7, 28, 3, #[.bool false, .slice none 0 0, .slice none 0 0]⟩] [⟨8, ⟨6, 28, 3, #[.bool false, .slice none 0 0, .slice none 0 0]⟩, PA.frQ (x.floor : Rat)⟩, ⟨9, ⟨7, 28, 3, #[.bool false, .slice none 0 0, .slice none 0 0]⟩, PA.frQ (x.ceil : Rat)⟩] [PA.val (.agg #[.bool b, .slice ad n1 cap, .slice ad2 n2 cap2]), PA.frZ x.floor, PA.frQ (x.floor : Rat), PA.val (.agg #[.bool b, .slice ad n1 cap, .slice ad2 n2 cap2]), PA.frZ x.ceil, PA.frQ (x.ceil : Rat), PA.any, PA.any, PA.any, PA.any]
    (by kernel_rfl) (by kernel_rfl) (fun f => (by simp only [fillR, fillL, List.setIfInBounds_toArray, List.set_cons_succ, List.set_cons_zero, Nat.reduceAdd]; rfl)) ?_ ?_ ?_ ?_ ?_
  · intro x hx; simp only [List.mem_cons, List.not_mem_nil, or_false] at hx; rcases hx with rfl | rfl
    · exact ⟨rfl, rfl, by decide, by decide, rfl, noInt3 _ _ _ _ _ _ _⟩
    · exact ⟨rfl, rfl, by decide, by decide, rfl, noInt3 _ _ _ _ _ _ _⟩
  · intro x hx; simp only [List.mem_cons, List.not_mem_nil, or_false] at hx; rcases hx with rfl | rfl <;> exact ⟨rfl, rfl, by simp⟩
  · intro x hx y hy h; simp only [List.mem_cons, List.not_mem_nil, or_false] at hx hy; rcases hx with rfl | rfl <;> rcases hy with rfl | rfl
    · exact absurd rfl h
    · show 6 ≠ 7; decide
    · show 7 ≠ 6; decide
    · exact absurd rfl h
  · refine ⟨?o0, ?o1, ?o2, ?o3, ?o4, ?o5, ?o6, ?o7, ?o8, ?o9, trivial⟩
    case o0 =>
      intro f w4 hE hp
      have hS := hE.size
      change OpGoal _ _ _ f w4 Ext _
      exact og_load (P := Try.prog) _ _ w.heap.size _ _ _ rfl rfl rfl (B1.ext hE) Try.underlying28 rfl (by kernel_rfl) rfl
    case o1 =>
      intro f w4 hE hp
      have hS := hE.size
      have q7 : f 0 = .agg #[.bool b, .slice ad n1 cap, .slice ad2 n2 cap2] := tellA hp 0 0 rfl rfl rfl
      change OpGoal _ _ _ f w4 Ext _
      refine og_call (P := Try.prog) _ _ _ #[f 0] Try.func29 (by kernel_rfl) (by kernel_rfl) rfl rfl (by kernel_rfl) ?_
      rw [q7]
      refine (rfloor_calls _ x 17592186043904 _ (Rx.ext hE) (by omega)).mono ?_
      rintro e w' ⟨v', rfl, h1, _, h2⟩
      exact ⟨v', rfl, h2, h1.mono hS⟩
    case o2 =>
      intro f w4 hE hp
      have hS := hE.size
      have q8 := tellA hp 0 1 rfl rfl rfl
      change OpGoal _ _ _ f w4 Ext _
      refine og_call (P := Try.prog) _ _ _ #[f 1] Try.func15 (by kernel_rfl) (by kernel_rfl) rfl rfl (by kernel_rfl) ?_
      refine (rofint_calls _ x.floor _ (q8.isZ (by omega)) (by omega)).mono ?_
      rintro e w' ⟨v', rfl, h1, h2⟩
      exact ⟨v', rfl, h2, h1.mono hS⟩
    case o3 =>
      intro f w4 hE hp
      have hS := hE.size
      change OpGoal _ _ _ f w4 Ext _
      exact og_load (P := Try.prog) _ _ w.heap.size _ _ _ rfl rfl rfl (B1.ext hE) Try.underlying28 rfl (by kernel_rfl) rfl
    case o4 =>
      intro f w4 hE hp
      have hS := hE.size
      have q10 : f 3 = .agg #[.bool b, .slice ad n1 cap, .slice ad2 n2 cap2] := tellA hp 0 3 rfl rfl rfl
      change OpGoal _ _ _ f w4 Ext _
      refine og_call (P := Try.prog) _ _ _ #[f 3] Try.func30 (by kernel_rfl) (by kernel_rfl) rfl rfl (by kernel_rfl) ?_
      rw [q10]
      refine (rceil_calls _ x 17592186043904 _ (Rx.ext hE) (by omega)).mono ?_
      rintro e w' ⟨v', rfl, h1, _, h2⟩
      exact ⟨v', rfl, h2, h1.mono hS⟩
    case o5 =>
      intro f w4 hE hp
      have hS := hE.size
      have q11 := tellA hp 0 4 rfl rfl rfl
      change OpGoal _ _ _ f w4 Ext _
      refine og_call (P := Try.prog) _ _ _ #[f 4] Try.func15 (by kernel_rfl) (by kernel_rfl) rfl rfl (by kernel_rfl) ?_
      refine (rofint_calls _ x.ceil _ (q11.isZ (by omega)) (by omega)).mono ?_
      rintro e w' ⟨v', rfl, h1, h2⟩
      exact ⟨v', rfl, h2, h1.mono hS⟩
    case o6 =>
      intro f w4 hE hp
      have hS := hE.size
      change OpGoal _ _ _ f w4 (fun a b => b = a.alloc _) _
      exact og_alloc (P := Try.prog) _ _ (.agg #[.bool false, .slice none 0 0, .slice none 0 0]) rfl rfl (by kernel_rfl) rfl
    case o7 =>
      intro f w4 hE hp
      have hS := hE.size
      change OpGoal _ _ _ f w4 (fun a b => b = a.alloc _) _
      exact og_alloc (P := Try.prog) _ _ (.agg #[.bool false, .slice none 0 0, .slice none 0 0]) rfl rfl (by kernel_rfl) rfl
    case o8 =>
      intro f w4 hE hp
      have hS := hE.size
      have q9 := tellA hp 1 2 rfl rfl rfl
      intro g old hfa hSg hbx hsz hno
      change OpGoal _ _ _ f w4 (Chg g) _
      obtain ⟨cells, hv, hcs, hc1, hcn⟩ := FrQ.parts q9
      exact og_storeA (P := Try.prog) (PA.frQ (x.floor : Rat)) 3 _ _ _ g _ old cells rfl rfl hfa hv hbx (by rw [hcs]; kernel_rfl) hsz hcs hc1 hSg (show 28 ≠ 79 by decide) (show 28 ≠ 3 by decide) hno hcn (hv ▸ q9)
    case o9 =>
      intro f w4 hE hp
      have hS := hE.size
      have q12 := tellA hp 1 5 rfl rfl rfl
      intro g old hfa hSg hbx hsz hno
      change OpGoal _ _ _ f w4 (Chg g) _
      obtain ⟨cells, hv, hcs, hc1, hcn⟩ := FrQ.parts q12
      exact og_storeA (P := Try.prog) (PA.frQ (x.ceil : Rat)) 3 _ _ _ g _ old cells rfl rfl hfa hv hbx (by rw [hcs]; kernel_rfl) hsz hcs hc1 hSg (show 28 ≠ 79 by decide) (show 28 ≠ 3 by decide) hno hcn (hv ▸ q12)
  · intro f w4 hE hp hal
    obtain ⟨ga3, ca3, fa3, la3, ba3, na3, pa3⟩ := hal ⟨6, 28, 3, #[.bool false, .slice none 0 0, .slice none 0 0]⟩ (by simp) (by decide)
    dsimp only at fa3 la3 ba3 na3
    have za3 := pa3 ⟨8, ⟨6, 28, 3, #[.bool false, .slice none 0 0, .slice none 0 0]⟩, PA.frQ (x.floor : Rat)⟩ (by simp) (by show 8 < 10; decide) rfl rfl
    clear pa3
    obtain ⟨ga4, ca4, fa4, la4, ba4, na4, pa4⟩ := hal ⟨7, 28, 3, #[.bool false, .slice none 0 0, .slice none 0 0]⟩ (by simp) (by decide)
    dsimp only at fa4 la4 ba4 na4
    have za4 := pa4 ⟨9, ⟨7, 28, 3, #[.bool false, .slice none 0 0, .slice none 0 0]⟩, PA.frQ (x.ceil : Rat)⟩ (by simp) (by show 9 < 10; decide) rfl rfl
    clear pa4
    clear hp hal
    obtain ⟨c3, ad3, l3, cap3, bd3, m3, dap3, hv3, q3⟩ := FrQ.opn za3
    cases hv3
    obtain ⟨c4, ad4, l4, cap4, bd4, m4, dap4, hv4, q4⟩ := FrQ.opn za4
    cases hv4
    have E4 := E.trans hE
    have A1 := B1.ext hE
    have R4 := Rx.ext hE
    clear B1 Rx
    have hc0 := A1.cell 0
    have hc1 := A1.cell 1
    have hc2 := A1.cell 2
    by_cases hw : x = (x.floor : Rat)
    · have Hd := Lib.hid (decide_eq_true hw)
      have Hc := Lib.hid (show (x.ceil : Rat) = (x.floor : Rat) by rw [ceil_whole hw])
      have Hs := Lib.hid (show (x - (x.floor : Rat)).num.sign = 0 by rw [frac_sign]; unfold cmpR; grind)
      have Hw := Lib.hid (show ∀ B wz vz, FrQ B wz vz x → FrQ B wz vz (x.floor : Rat) from fun _ _ _ h => by rw [← hw]; exact h)
      clear hw
      go_wp2_with fail
      refine (riswhole2_calls _ x 17592186043904 17592186043904 _ R4.isS (by omega) (by omega)).mono ?_
      rw [Hd.out]
      rintro e w5 ⟨rfl, e5⟩
      have E5 := E4.trans e5
      have A5 := A1.ext e5
      have A3 := ba3.ext e5
      have A4 := ba4.ext e5
      have R5 := R4.ext e5
      have Q3 := q3.ext e5
      have Q4 := q4.ext e5
      rw [Hc.out] at Q4
      go_wp2_with fail
      refine wp_region_puts [] [PP.val (.agg #[.bool c3, .slice ad3 l3 cap3, .slice bd3 m3 dap3]), PP.val (.agg #[.bool b, .slice ad n1 cap, .slice ad2 n2 cap2]), PP.frQ (x.floor : Rat), PP.val (.bool true), PP.val (.bool true), PP.val (.agg #[.bool c4, .slice ad4 l4 cap4, .slice bd4 m4 dap4]), PP.val (.agg #[.bool c3, .slice ad3 l3 cap3, .slice bd3 m3 dap3]), PP.val (.bool true), PP.val (.bool true), PP.val (.bool true), PP.val (.agg #[.bool b, .slice ad n1 cap, .slice ad2 n2 cap2]), PP.frQS (x - (x.floor : Rat)) (17592186043908), PP.val (.int .i64 0), PP.val (.bool true), PP.val (.bool true), PP.val (.bool true)] [] [0, 1, 2, 3, 4, 5, 6, 7, 8, 9, 10, 11, 12, 13, 14, 15]
        (by kernel_rfl) (by kernel_rfl) (fun f => (by simp only [fillR, fillL, List.setIfInBounds_toArray, List.set_cons_succ, List.set_cons_zero, Nat.reduceAdd]; rfl)) ?_ ?_ ?_ ?_ ?_
      · intro x hx; cases hx
      · intro x hx; cases hx
      · intro x hx; cases hx
      · refine ⟨?o0, ?o1, ?o2, ?o3, ?o4, ?o5, ?o6, ?o7, ?o8, ?o9, ?o10, ?o11, ?o12, ?o13, ?o14, ?o15, trivial⟩
        case o0 =>
          intro f w6 hG hp hl
          have hE : Ext w5 w6 := hG
          have hS := hE.size
          change OpGoal _ _ _ f w6 Ext _
          exact og_load (P := Try.prog) _ _ ga3 _ _ _ rfl rfl rfl (A3.ext hE) Try.underlying28 rfl (by kernel_rfl) rfl
        case o1 =>
          intro f w6 hG hp hl
          have hE : Ext w5 w6 := hG
          have hS := hE.size
          change OpGoal _ _ _ f w6 Ext _
          exact og_load (P := Try.prog) _ _ w.heap.size _ _ _ rfl rfl rfl (A5.ext hE) Try.underlying28 rfl (by kernel_rfl) rfl
        case o2 =>
          intro f w6 hG hp hl
          have hE : Ext w5 w6 := hG
          have hS := hE.size
          have q16 : f 1 = .agg #[.bool b, .slice ad n1 cap, .slice ad2 n2 cap2] := tellV hp 0 1 rfl rfl (fun h => by cases h)
          change OpGoal _ _ _ f w6 Ext _
          refine og_call (P := Try.prog) _ _ _ #[f 1] Try.func44 (by kernel_rfl) (by kernel_rfl) rfl rfl (by kernel_rfl) ?_
          rw [q16]
          refine (form_calls _ x 17592186043904 _ (R5.ext hE) (by omega)).mono ?_
          rintro e w' ⟨v', rfl, h1, h2⟩
          exact ⟨v', rfl, h2, Hw.out _ _ _ (h1.mono hS)⟩
        case o3 =>
          intro f w6 hG hp hl
          have hE : Ext w5 w6 := hG
          have hS := hE.size
          have q15 : f 0 = .agg #[.bool c3, .slice ad3 l3 cap3, .slice bd3 m3 dap3] := tellV hp 0 0 rfl rfl (fun h => by cases h)
          have q17 := tellV hp 1 2 rfl rfl (fun _ => hE)
          change OpGoal _ _ _ f w6 Ext _
          refine og_call (P := Try.prog) _ _ _ #[f 0, f 2] Try.func16 (by kernel_rfl) (by kernel_rfl) rfl rfl (by kernel_rfl) ?_
          rw [q15]
          refine (same_true _ _ _ _ _ _ (Q3.ext hE) q17).mono ?_
          rintro e w' ⟨rfl, h2⟩
          exact ⟨_, rfl, h2, rfl⟩
        case o4 =>
          intro f w6 hG hp hl
          have hE : Ext w5 w6 := hG
          have hS := hE.size
          have q18 : f 3 = .bool true := tellV hp 0 3 rfl rfl (fun h => by cases h)
          exact ⟨_, rfl, Ext.refl _, q18⟩
        case o5 =>
          intro f w6 hG hp hl
          have hE : Ext w5 w6 := hG
          have hS := hE.size
          have qg : f 4 = .bool true := tellV hp 0 4 rfl rfl (fun h => by cases h)
          change OpGoal _ _ _ f w6 Ext _
          refine og_guard (j := 4) (want := true) rfl qg ?_
          change OpGoal _ _ _ f w6 Ext _
          exact og_load (P := Try.prog) _ _ ga4 _ _ _ rfl rfl rfl (A4.ext hE) Try.underlying28 rfl (by kernel_rfl) rfl
        case o6 =>
          intro f w6 hG hp hl
          have hE : Ext w5 w6 := hG
          have hS := hE.size
          have qg : f 4 = .bool true := tellV hp 0 4 rfl rfl (fun h => by cases h)
          change OpGoal _ _ _ f w6 Ext _
          refine og_guard (j := 4) (want := true) rfl qg ?_
          change OpGoal _ _ _ f w6 Ext _
          exact og_load (P := Try.prog) _ _ ga3 _ _ _ rfl rfl rfl (A3.ext hE) Try.underlying28 rfl (by kernel_rfl) rfl
        case o7 =>
          intro f w6 hG hp hl
          have hE : Ext w5 w6 := hG
          have hS := hE.size
          have q20 : f 5 = .agg #[.bool c4, .slice ad4 l4 cap4, .slice bd4 m4 dap4] := tellV hp 0 5 rfl rfl (fun h => by cases h)
          have q21 : f 6 = .agg #[.bool c3, .slice ad3 l3 cap3, .slice bd3 m3 dap3] := tellV hp 1 6 rfl rfl (fun h => by cases h)
          have qg : f 4 = .bool true := tellV hp 2 4 rfl rfl (fun h => by cases h)
          change OpGoal _ _ _ f w6 Ext _
          refine og_guard (j := 4) (want := true) rfl qg ?_
          change OpGoal _ _ _ f w6 Ext _
          refine og_call (P := Try.prog) _ _ _ #[f 5, f 6] Try.func16 (by kernel_rfl) (by kernel_rfl) rfl rfl (by kernel_rfl) ?_
          rw [q20, q21]
          refine (same_true _ _ _ _ _ _ (Q4.ext hE) (Q3.ext hE)).mono ?_
          rintro e w' ⟨rfl, h2⟩
          exact ⟨_, rfl, h2, rfl⟩
        case o8 =>
          intro f w6 hG hp hl
          have hE : Ext w5 w6 := hG
          have hS := hE.size
          have q19 : f 4 = .bool true := tellV hp 0 4 rfl rfl (fun h => by cases h)
          have q22 : f 7 = .bool true := tellV hp 1 7 rfl rfl (fun h => by cases h)
          simp only [OpGoal]
          go_simp
          exact ⟨_, rfl, Ext.refl _, rfl⟩
        case o9 =>
          intro f w6 hG hp hl
          have hE : Ext w5 w6 := hG
          have hS := hE.size
          have q23 : f 8 = .bool true := tellV hp 0 8 rfl rfl (fun h => by cases h)
          simp only [OpGoal]
          go_simp
          exact ⟨_, rfl, Ext.refl _, rfl⟩
        case o10 =>
          intro f w6 hG hp hl
          have hE : Ext w5 w6 := hG
          have hS := hE.size
          have qg : f 9 = .bool true := tellV hp 0 9 rfl rfl (fun h => by cases h)
          change OpGoal _ _ _ f w6 Ext _
          refine og_guard (j := 9) (want := true) rfl qg ?_
          change OpGoal _ _ _ f w6 Ext _
          exact og_load (P := Try.prog) _ _ w.heap.size _ _ _ rfl rfl rfl (A5.ext hE) Try.underlying28 rfl (by kernel_rfl) rfl
        case o11 =>
          intro f w6 hG hp hl
          have hE : Ext w5 w6 := hG
          have hS := hE.size
          have q25 : f 10 = .agg #[.bool b, .slice ad n1 cap, .slice ad2 n2 cap2] := tellV hp 0 10 rfl rfl (fun h => by cases h)
          have qg : f 9 = .bool true := tellV hp 1 9 rfl rfl (fun h => by cases h)
          change OpGoal _ _ _ f w6 Ext _
          refine og_guard (j := 9) (want := true) rfl qg ?_
          change OpGoal _ _ _ f w6 Ext _
          refine og_call (P := Try.prog) _ _ _ #[f 10] Try.func31 (by kernel_rfl) (by kernel_rfl) rfl rfl (by kernel_rfl) ?_
          rw [q25]
          refine (rfrac2_calls _ x 17592186043904 17592186043904 _ (R5.isS.ext hE) (by omega) (by omega)).mono ?_
          rintro e w' ⟨v', rfl, h1, h3, h2⟩
          exact ⟨v', rfl, h2, h1.mono hS, by omega⟩
        case o12 =>
          intro f w6 hG hp hl
          have hE : Ext w5 w6 := hG
          have hS := hE.size
          have q26 := tellV hp 0 11 rfl rfl (fun _ => hE)
          have qg : f 9 = .bool true := tellV hp 2 9 rfl rfl (fun h => by cases h)
          change OpGoal _ _ _ f w6 Ext _
          refine og_guard (j := 9) (want := true) rfl qg ?_
          change OpGoal _ _ _ f w6 Ext _
          refine og_call (P := Try.prog) _ _ _ #[f 11] Try.func45 (by kernel_rfl) (by kernel_rfl) rfl rfl (by kernel_rfl) ?_
          refine (rsign_calls _ (x - (x.floor : Rat)) (17592186043908) _ (q26.1.isR q26.2 (by rw [LIM_eq]; omega))).mono ?_
          rintro e w' ⟨rfl, h2⟩
          exact ⟨_, rfl, h2, congrArg (Value.int .i64) Hs.out⟩
        case o13 =>
          intro f w6 hG hp hl
          have hE : Ext w5 w6 := hG
          have hS := hE.size
          have q27 : f 12 = .int .i64 0 := tellV hp 0 12 rfl rfl (fun h => by cases h)
          have qg : f 9 = .bool true := tellV hp 1 9 rfl rfl (fun h => by cases h)
          change OpGoal _ _ _ f w6 Ext _
          refine og_guard (j := 9) (want := true) rfl qg ?_
          simp only [OpGoal]
          go_simp
          exact ⟨_, rfl, Ext.refl _, rfl⟩
        case o14 =>
          intro f w6 hG hp hl
          have hE : Ext w5 w6 := hG
          have hS := hE.size
          have q24 : f 9 = .bool true := tellV hp 0 9 rfl rfl (fun h => by cases h)
          have q28 : f 13 = .bool true := tellV hp 1 13 rfl rfl (fun h => by cases h)
          simp only [OpGoal]
          go_simp
          exact ⟨_, rfl, Ext.refl _, rfl⟩
        case o15 =>
          intro f w6 hG hp hl
          have hE : Ext w5 w6 := hG
          have hS := hE.size
          have q29 : f 14 = .bool true := tellV hp 0 14 rfl rfl (fun h => by cases h)
          simp only [OpGoal]
          go_simp
          exact ⟨_, rfl, Ext.refl _, rfl⟩
      · intro f w6 hG hp
        have hE : Ext w5 w6 := ChgS.nil hG
        have q2 : f 15 = .bool true := endV hp 15 (by decide) rfl (fun h => by cases h)
        try simp only [q2]
        clear hp
        go_wp2
        go_ret
        exact ⟨rfl, E5.trans hE⟩
    · have Hd := Lib.hid (decide_eq_false hw)
      have Hc := Lib.hid (show (x.ceil : Rat) = (x.floor : Rat) + (1 : Int) by rw [ceil_not hw, Rat.intCast_add])
      have hlt : (x.floor : Rat) < x := by have := Rat.floor_le x; grind
      have Hcf := Lib.hid (show ∀ B wz vz, FrQ B wz vz ((x.floor : Rat) + ((1 : Int) : Rat)) → FrQ B wz vz (x.ceil : Rat) from fun _ _ _ h => by rw [Hc.out]; exact h)
      have Hs := Lib.hid (show (x - (x.floor : Rat)).num.sign = 1 by rw [frac_sign]; unfold cmpR; grind)
      have H1 := Lib.hid (show cmpR (x.floor : Rat) x = -1 by unfold cmpR; grind)
      have hlt2 : x < (x.ceil : Rat) := by
        have h := Rat.lt_floor_add_one x
        rw [Rat.intCast_add] at h
        rw [Hc.out]
        exact h
      have H2 := Lib.hid (show cmpR x (x.ceil : Rat) = -1 by unfold cmpR; grind)
      clear hw hlt hlt2
      go_wp2_with fail
      refine (riswhole2_calls _ x 17592186043904 17592186043904 _ R4.isS (by omega) (by omega)).mono ?_
      rw [Hd.out]
      rintro e w5 ⟨rfl, e5⟩
      have E5 := E4.trans e5
      have A5 := A1.ext e5
      have A3 := ba3.ext e5
      have A4 := ba4.ext e5
      have R5 := R4.ext e5
      have Q3 := q3.ext e5
      have Q4 := q4.ext e5
      have F3 := Q3.isR (k := 17592186043905) (by omega) (by omega)
      have F4 := Q4.isR (k := 17592186043905) (by omega) (by omega)
      have S5 := HvS.out.ext E5
      have S3 := Q3.isS (a := szZ x.floor) (b := 1) (by rw [Rat.num_intCast]; exact Nat.le_refl _) (by rw [Rat.den_intCast]; exact Nat.le_refl _) (by omega) (by omega)
      have S4 := Q4.isS (a := szZ x.ceil) (b := 1) (by rw [Rat.num_intCast]; exact Nat.le_refl _) (by rw [Rat.den_intCast]; exact Nat.le_refl _) (by omega) (by omega)
      go_wp2_with fail
      refine wp_region_puts [] [PP.val (.agg #[.bool c4, .slice ad4 l4 cap4, .slice bd4 m4 dap4]), PP.val (.agg #[.bool c3, .slice ad3 l3 cap3, .slice bd3 m3 dap3]), PP.frQ ((1 : Int) : Rat), PP.frQ (x.ceil : Rat), PP.val (.bool true), PP.val (.bool true), PP.val (.agg #[.bool c3, .slice ad3 l3 cap3, .slice bd3 m3 dap3]), PP.val (.agg #[.bool b, .slice ad n1 cap, .slice ad2 n2 cap2]), PP.val (.int .i64 (-1)), PP.val (.bool true), PP.val (.bool true), PP.val (.bool true), PP.val (.agg #[.bool b, .slice ad n1 cap, .slice ad2 n2 cap2]), PP.val (.agg #[.bool c4, .slice ad4 l4 cap4, .slice bd4 m4 dap4]), PP.val (.int .i64 (-1)), PP.val (.bool true), PP.val (.bool true), PP.val (.bool true), PP.val (.agg #[.bool b, .slice ad n1 cap, .slice ad2 n2 cap2]), PP.frQS (x - (x.floor : Rat)) (17592186043908), PP.val (.int .i64 1), PP.val (.bool true), PP.val (.bool true), PP.val (.bool true)] [] [0, 1, 2, 3, 4, 5, 6, 7, 8, 9, 10, 11, 12, 13, 14, 15, 16, 17, 18, 19, 20, 21, 22, 23]
        (by kernel_rfl) (by kernel_rfl) (fun f => (by simp only [fillR, fillL, List.setIfInBounds_toArray, List.set_cons_succ, List.set_cons_zero, Nat.reduceAdd]; rfl)) ?_ ?_ ?_ ?_ ?_
      · intro x hx; cases hx
      · intro x hx; cases hx
      · intro x hx; cases hx
      · refine ⟨?o0, ?o1, ?o2, ?o3, ?o4, ?o5, ?o6, ?o7, ?o8, ?o9, ?o10, ?o11, ?o12, ?o13, ?o14, ?o15, ?o16, ?o17, ?o18, ?o19, ?o20, ?o21, ?o22, ?o23, trivial⟩
        case o0 =>
          intro f w6 hG hp hl
          have hE : Ext w5 w6 := hG
          have hS := hE.size
          change OpGoal _ _ _ f w6 Ext _
          exact og_load (P := Try.prog) _ _ ga4 _ _ _ rfl rfl rfl (A4.ext hE) Try.underlying28 rfl (by kernel_rfl) rfl
        case o1 =>
          intro f w6 hG hp hl
          have hE : Ext w5 w6 := hG
          have hS := hE.size
          change OpGoal _ _ _ f w6 Ext _
          exact og_load (P := Try.prog) _ _ ga3 _ _ _ rfl rfl rfl (A3.ext hE) Try.underlying28 rfl (by kernel_rfl) rfl
        case o2 =>
          intro f w6 hG hp hl
          have hE : Ext w5 w6 := hG
          have hS := hE.size
          change OpGoal _ _ _ f w6 Ext _
          refine og_call (P := Try.prog) _ _ _ #[.int .i64 1] Try.func24 (by kernel_rfl) (by kernel_rfl) rfl rfl (by kernel_rfl) ?_
          refine (rwhole_calls 1 _ (by omega) (by omega)).mono ?_
          rintro e w' ⟨v', rfl, h1, h2⟩
          exact ⟨v', rfl, h2, h1.mono hS⟩
        case o3 =>
          intro f w6 hG hp hl
          have hE : Ext w5 w6 := hG
          have hS := hE.size
          have q31 : f 1 = .agg #[.bool c3, .slice ad3 l3 cap3, .slice bd3 m3 dap3] := tellV hp 0 1 rfl rfl (fun h => by cases h)
          have q32 := tellV hp 1 2 rfl rfl (fun _ => hE)
          change OpGoal _ _ _ f w6 Ext _
          refine og_call (P := Try.prog) _ _ _ #[f 1, f 2] Try.func43 (by kernel_rfl) (by kernel_rfl) rfl rfl (by kernel_rfl) ?_
          rw [q31]
          refine (radd_calls _ _ (x.floor : Rat) ((1 : Int) : Rat) 17592186043905 1 _ (F3.ext hE) (q32.isR (Nat.le_trans (szQ_int 1) (by decide)) (by rw [LIM_eq]; omega)) (by omega)).mono ?_
          rintro e w' ⟨v', rfl, h1, _, h2⟩
          exact ⟨v', rfl, h2, Hcf.out _ _ _ (h1.mono hS)⟩
        case o4 =>
          intro f w6 hG hp hl
          have hE : Ext w5 w6 := hG
          have hS := hE.size
          have q30 : f 0 = .agg #[.bool c4, .slice ad4 l4 cap4, .slice bd4 m4 dap4] := tellV hp 0 0 rfl rfl (fun h => by cases h)
          have q33 := tellV hp 1 3 rfl rfl (fun _ => hE)
          change OpGoal _ _ _ f w6 Ext _
          refine og_call (P := Try.prog) _ _ _ #[f 0, f 3] Try.func16 (by kernel_rfl) (by kernel_rfl) rfl rfl (by kernel_rfl) ?_
          rw [q30]
          refine (same_true _ _ _ _ _ _ (Q4.ext hE) q33).mono ?_
          rintro e w' ⟨rfl, h2⟩
          exact ⟨_, rfl, h2, rfl⟩
        case o5 =>
          intro f w6 hG hp hl
          have hE : Ext w5 w6 := hG
          have hS := hE.size
          have q34 : f 4 = .bool true := tellV hp 0 4 rfl rfl (fun h => by cases h)
          exact ⟨_, rfl, Ext.refl _, q34⟩
        case o6 =>
          intro f w6 hG hp hl
          have hE : Ext w5 w6 := hG
          have hS := hE.size
          have qg : f 5 = .bool true := tellV hp 0 5 rfl rfl (fun h => by cases h)
          change OpGoal _ _ _ f w6 Ext _
          refine og_guard (j := 5) (want := true) rfl qg ?_
          change OpGoal _ _ _ f w6 Ext _
          exact og_load (P := Try.prog) _ _ ga3 _ _ _ rfl rfl rfl (A3.ext hE) Try.underlying28 rfl (by kernel_rfl) rfl
        case o7 =>
          intro f w6 hG hp hl
          have hE : Ext w5 w6 := hG
          have hS := hE.size
          have qg : f 5 = .bool true := tellV hp 0 5 rfl rfl (fun h => by cases h)
          change OpGoal _ _ _ f w6 Ext _
          refine og_guard (j := 5) (want := true) rfl qg ?_
          change OpGoal _ _ _ f w6 Ext _
          exact og_load (P := Try.prog) _ _ w.heap.size _ _ _ rfl rfl rfl (A5.ext hE) Try.underlying28 rfl (by kernel_rfl) rfl
        case o8 =>
          intro f w6 hG hp hl
          have hE : Ext w5 w6 := hG
          have hS := hE.size
          have q36 : f 6 = .agg #[.bool c3, .slice ad3 l3 cap3, .slice bd3 m3 dap3] := tellV hp 0 6 rfl rfl (fun h => by cases h)
          have q37 : f 7 = .agg #[.bool b, .slice ad n1 cap, .slice ad2 n2 cap2] := tellV hp 1 7 rfl rfl (fun h => by cases h)
          have qg : f 5 = .bool true := tellV hp 2 5 rfl rfl (fun h => by cases h)
          change OpGoal _ _ _ f w6 Ext _
          refine og_guard (j := 5) (want := true) rfl qg ?_
          change OpGoal _ _ _ f w6 Ext _
          refine og_call (P := Try.prog) _ _ _ #[f 6, f 7] Try.func41 (by kernel_rfl) (by kernel_rfl) rfl rfl (by kernel_rfl) ?_
          rw [q36, q37]
          refine (rcmp2_calls _ _ (x.floor : Rat) x (szZ x.floor) 1 ka kb _ (S3.ext hE) (S5.ext hE) (by omega) (by omega)).mono ?_
          rintro e w' ⟨rfl, h2⟩
          exact ⟨_, rfl, h2, congrArg (Value.int .i64) H1.out⟩
        case o9 =>
          intro f w6 hG hp hl
          have hE : Ext w5 w6 := hG
          have hS := hE.size
          have q38 : f 8 = .int .i64 (-1) := tellV hp 0 8 rfl rfl (fun h => by cases h)
          have qg : f 5 = .bool true := tellV hp 1 5 rfl rfl (fun h => by cases h)
          change OpGoal _ _ _ f w6 Ext _
          refine og_guard (j := 5) (want := true) rfl qg ?_
          simp only [OpGoal]
          go_simp
          exact ⟨_, rfl, Ext.refl _, rfl⟩
        case o10 =>
          intro f w6 hG hp hl
          have hE : Ext w5 w6 := hG
          have hS := hE.size
          have q35 : f 5 = .bool true := tellV hp 0 5 rfl rfl (fun h => by cases h)
          have q39 : f 9 = .bool true := tellV hp 1 9 rfl rfl (fun h => by cases h)
          simp only [OpGoal]
          go_simp
          exact ⟨_, rfl, Ext.refl _, rfl⟩
        case o11 =>
          intro f w6 hG hp hl
          have hE : Ext w5 w6 := hG
          have hS := hE.size
          have q40 : f 10 = .bool true := tellV hp 0 10 rfl rfl (fun h => by cases h)
          simp only [OpGoal]
          go_simp
          exact ⟨_, rfl, Ext.refl _, rfl⟩
        case o12 =>
          intro f w6 hG hp hl
          have hE : Ext w5 w6 := hG
          have hS := hE.size
          have qg : f 11 = .bool true := tellV hp 0 11 rfl rfl (fun h => by cases h)
          change OpGoal _ _ _ f w6 Ext _
          refine og_guard (j := 11) (want := true) rfl qg ?_
          change OpGoal _ _ _ f w6 Ext _
          exact og_load (P := Try.prog) _ _ w.heap.size _ _ _ rfl rfl rfl (A5.ext hE) Try.underlying28 rfl (by kernel_rfl) rfl
        case o13 =>
          intro f w6 hG hp hl
          have hE : Ext w5 w6 := hG
          have hS := hE.size
          have qg : f 11 = .bool true := tellV hp 0 11 rfl rfl (fun h => by cases h)
          change OpGoal _ _ _ f w6 Ext _
          refine og_guard (j := 11) (want := true) rfl qg ?_
          change OpGoal _ _ _ f w6 Ext _
          exact og_load (P := Try.prog) _ _ ga4 _ _ _ rfl rfl rfl (A4.ext hE) Try.underlying28 rfl (by kernel_rfl) rfl
        case o14 =>
          intro f w6 hG hp hl
          have hE : Ext w5 w6 := hG
          have hS := hE.size
          have q42 : f 12 = .agg #[.bool b, .slice ad n1 cap, .slice ad2 n2 cap2] := tellV hp 0 12 rfl rfl (fun h => by cases h)
          have q43 : f 13 = .agg #[.bool c4, .slice ad4 l4 cap4, .slice bd4 m4 dap4] := tellV hp 1 13 rfl rfl (fun h => by cases h)
          have qg : f 11 = .bool true := tellV hp 2 11 rfl rfl (fun h => by cases h)
          change OpGoal _ _ _ f w6 Ext _
          refine og_guard (j := 11) (want := true) rfl qg ?_
          change OpGoal _ _ _ f w6 Ext _
          refine og_call (P := Try.prog) _ _ _ #[f 12, f 13] Try.func41 (by kernel_rfl) (by kernel_rfl) rfl rfl (by kernel_rfl) ?_
          rw [q42, q43]
          refine (rcmp2_calls _ _ x (x.ceil : Rat) ka kb (szZ x.ceil) 1 _ (S5.ext hE) (S4.ext hE) (by omega) (by omega)).mono ?_
          rintro e w' ⟨rfl, h2⟩
          exact ⟨_, rfl, h2, congrArg (Value.int .i64) H2.out⟩
        case o15 =>
          intro f w6 hG hp hl
          have hE : Ext w5 w6 := hG
          have hS := hE.size
          have q44 : f 14 = .int .i64 (-1) := tellV hp 0 14 rfl rfl (fun h => by cases h)
          have qg : f 11 = .bool true := tellV hp 1 11 rfl rfl (fun h => by cases h)
          change OpGoal _ _ _ f w6 Ext _
          refine og_guard (j := 11) (want := true) rfl qg ?_
          simp only [OpGoal]
          go_simp
          exact ⟨_, rfl, Ext.refl _, rfl⟩
        case o16 =>
          intro f w6 hG hp hl
          have hE : Ext w5 w6 := hG
          have hS := hE.size
          have q41 : f 11 = .bool true := tellV hp 0 11 rfl rfl (fun h => by cases h)
          have q45 : f 15 = .bool true := tellV hp 1 15 rfl rfl (fun h => by cases h)
          simp only [OpGoal]
          go_simp
          exact ⟨_, rfl, Ext.refl _, rfl⟩
        case o17 =>
          intro f w6 hG hp hl
          have hE : Ext w5 w6 := hG
          have hS := hE.size
          have q46 : f 16 = .bool true := tellV hp 0 16 rfl rfl (fun h => by cases h)
          simp only [OpGoal]
          go_simp
          exact ⟨_, rfl, Ext.refl _, rfl⟩
        case o18 =>
          intro f w6 hG hp hl
          have hE : Ext w5 w6 := hG
          have hS := hE.size
          have qg : f 17 = .bool true := tellV hp 0 17 rfl rfl (fun h => by cases h)
          change OpGoal _ _ _ f w6 Ext _
          refine og_guard (j := 17) (want := true) rfl qg ?_
          change OpGoal _ _ _ f w6 Ext _
          exact og_load (P := Try.prog) _ _ w.heap.size _ _ _ rfl rfl rfl (A5.ext hE) Try.underlying28 rfl (by kernel_rfl) rfl
        case o19 =>
          intro f w6 hG hp hl
          have hE : Ext w5 w6 := hG
          have hS := hE.size
          have q48 : f 18 = .agg #[.bool b, .slice ad n1 cap, .slice ad2 n2 cap2] := tellV hp 0 18 rfl rfl (fun h => by cases h)
          have qg : f 17 = .bool true := tellV hp 1 17 rfl rfl (fun h => by cases h)
          change OpGoal _ _ _ f w6 Ext _
          refine og_guard (j := 17) (want := true) rfl qg ?_
          change OpGoal _ _ _ f w6 Ext _
          refine og_call (P := Try.prog) _ _ _ #[f 18] Try.func31 (by kernel_rfl) (by kernel_rfl) rfl rfl (by kernel_rfl) ?_
          rw [q48]
          refine (rfrac2_calls _ x 17592186043904 17592186043904 _ (R5.isS.ext hE) (by omega) (by omega)).mono ?_
          rintro e w' ⟨v', rfl, h1, h3, h2⟩
          exact ⟨v', rfl, h2, h1.mono hS, by omega⟩
        case o20 =>
          intro f w6 hG hp hl
          have hE : Ext w5 w6 := hG
          have hS := hE.size
          have q49 := tellV hp 0 19 rfl rfl (fun _ => hE)
          have qg : f 17 = .bool true := tellV hp 2 17 rfl rfl (fun h => by cases h)
          change OpGoal _ _ _ f w6 Ext _
          refine og_guard (j := 17) (want := true) rfl qg ?_
          change OpGoal _ _ _ f w6 Ext _
          refine og_call (P := Try.prog) _ _ _ #[f 19] Try.func45 (by kernel_rfl) (by kernel_rfl) rfl rfl (by kernel_rfl) ?_
          refine (rsign_calls _ (x - (x.floor : Rat)) (17592186043908) _ (q49.1.isR q49.2 (by rw [LIM_eq]; omega))).mono ?_
          rintro e w' ⟨rfl, h2⟩
          exact ⟨_, rfl, h2, congrArg (Value.int .i64) Hs.out⟩
        case o21 =>
          intro f w6 hG hp hl
          have hE : Ext w5 w6 := hG
          have hS := hE.size
          have q50 : f 20 = .int .i64 1 := tellV hp 0 20 rfl rfl (fun h => by cases h)
          have qg : f 17 = .bool true := tellV hp 1 17 rfl rfl (fun h => by cases h)
          change OpGoal _ _ _ f w6 Ext _
          refine og_guard (j := 17) (want := true) rfl qg ?_
          simp only [OpGoal]
          go_simp
          exact ⟨_, rfl, Ext.refl _, rfl⟩
        case o22 =>
          intro f w6 hG hp hl
          have hE : Ext w5 w6 := hG
          have hS := hE.size
          have q47 : f 17 = .bool true := tellV hp 0 17 rfl rfl (fun h => by cases h)
          have q51 : f 21 = .bool true := tellV hp 1 21 rfl rfl (fun h => by cases h)
          simp only [OpGoal]
          go_simp
          exact ⟨_, rfl, Ext.refl _, rfl⟩
        case o23 =>
          intro f w6 hG hp hl
          have hE : Ext w5 w6 := hG
          have hS := hE.size
          have q52 : f 22 = .bool true := tellV hp 0 22 rfl rfl (fun h => by cases h)
          simp only [OpGoal]
          go_simp
          exact ⟨_, rfl, Ext.refl _, rfl⟩
      · intro f w6 hG hp
        have hE : Ext w5 w6 := ChgS.nil hG
        have q2 : f 23 = .bool true := endV hp 23 (by decide) rfl (fun h => by cases h)
        try simp only [q2]
        clear hp
        go_wp2
        go_ret
        exact ⟨rfl, E5.trans hE⟩
end Go.Proofs.Ytnefipinicfegaa
