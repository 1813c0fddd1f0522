/-
  The law BranchEven returns true, whatever its rule, its variable and its part are.
-/
import Derived.Test.YtkcnnlhaiahpbaaBranT
namespace Go.Proofs.Ytkcnnlhaiahpbaa
open Go.RowKit
set_option linter.unusedVariables false
set_option linter.unusedSimpArgs false

set_option maxRecDepth 100000 in
set_option maxHeartbeats 1000000 in
theorem bnew_ok (r : Int) (hr : r = 0 ∨ r = 1) (w : World) :
    Calls Try.prog 64 #[.int .i64 r] w fun e w' => e = .returned (.tuple #[.pointer (some ⟨w.heap.size + 1, 0, none⟩), .int .i64 0]) ∧
         Bx 132 w' (w.heap.size + 1) #[.func (.func (if r = 0 then 104 else 105)) #[] #[], .map (some w.heap.size)] ∧ w'.heap[w.heap.size]? = some (.map #[] 0) ∧ Ext w w' := by
  rcases hr with rfl | rfl
  · exact bnew_0 w
  · exact bnew_1 w
set_option maxRecDepth 100000 in
set_option maxHeartbeats 1000000 in
theorem even (r : Int) (x : Rat) : scoreQ r ((1 : Int) : Rat) ((1 : Int) : Rat) (((1 : Int) : Rat) - x) = scoreQ r ((1 : Int) : Rat) ((1 : Int) : Rat) x := by
  have h1 : ((1 : Int) : Rat) = 1 := by decide
  unfold scoreQ brokenQ
  rw [h1]
  split
  · split <;> split <;> grind
  · grind

set_option maxRecDepth 100000 in
set_option maxHeartbeats 4000000 in
theorem branchEven_calls (r c : Int) (v : Value) (b : Bool) (xs ys : List Nat) (w : World) (hv : RawQ w v b xs ys) (dx : Dig W xs) (dy : Dig W ys) (hl : xs.length + ys.length ≤ 9223372036854775807) :
    Calls Try.prog 11 #[.int .i64 r, .int .i64 c, v] w fun e w' => e = .returned (.bool true) ∧ Ext w w' := by
  have Hv := Lib.hid hv
  obtain ⟨ad, n1, cap, ad2, n2, cap2, hn1, hn2, rfl⟩ := hv.opn2
  have Hn1 := Lib.hid hn1
  have Hn2 := Lib.hid hn2
  clear hv hn1 hn2
  go_enter Try.func11, Try.ntmps11
  obtain ⟨w1, hw1, e1, b1, s1⟩ := alloc1 w #[.bool b, .slice ad n1 cap, .slice ad2 n2 cap2] 28
  go_wp2_with fail
  rw [← hw1]
  refine (speaks21_calls _).mono ?_
  rintro e w2 ⟨rfl, e2⟩
  have B2 := b1.ext e2
  have E2 := e1.trans e2
  have hc0 := B2.cell 0
  have hc1 := B2.cell 1
  have hc2 := B2.cell 2
  go_wp2_with fail
  refine (rqwords3_calls _ b xs ys _ (Hv.out.ext E2) hl).mono ?_
  rw [← Hn1.out, ← Hn2.out]
  rintro e w3 ⟨rfl, e3⟩
  clear hc0 hc1 hc2
  by_cases hg : 6 < n1 + n2
  · have hg' : (6 : Int) < ((n1 + n2 : Nat) : Int) := by omega
    go_wp2
    go_ret
    exact ⟨rfl, E2.trans e3⟩
  have hg' : ¬ (6 : Int) < ((n1 + n2 : Nat) : Int) := by omega
  have X1 : xs.length ≤ 6 := by rw [← Hn1.out]; omega
  have X2 : ys.length ≤ 6 := by rw [← Hn2.out]; omega
  have lim : (4096 : Nat) ≤ LIM := by rw [LIM_eq]; omega
  have E3 := E2.trans e3
  have B3 := B2.ext e3
  obtain ⟨x, hx⟩ : ∃ x, x = rawR b xs ys := ⟨_, rfl⟩
  have RX := Lib.hid (show ∀ wz vz, RawQ wz vz b xs ys → IsR wz vz x 6 from fun wz vz h => by rw [hx]; exact h.isR dx dy 6 X1 X2 (by omega) (by omega))
  have SX := Lib.hid (rawR_szD (b := b) dx dy 6 X1 X2 (by omega))
  have hxD : szD x ≤ 30 := by rw [hx]; exact SX.out.2.2
  have hxQ : szQ x ≤ 6 := (RX.out _ _ Hv.out).sz
  have hxL := szQ_left hxQ
  have h1D : szD ((1 : Int) : Rat) ≤ 5 := by decide +kernel
  have Hx := Lib.hid hx
  have HE := Lib.hid (even r x)
  clear hx
  by_cases hr : r = 0 ∨ r = 1
  · have HR := Lib.hid hr
    clear hr
    go_wp2_with fail
    refine (bnew_ok r HR.out _).mono ?_
    rintro e w4 ⟨rfl, ba, ma, e4⟩
    have Ba := Lib.hid ba
    have Ma := Lib.hid ma
    clear ba ma
    have E4 := E3.trans e4
    have B4 := B3.ext e4
    go_wp2_with fail
    refine wp_region_alt [⟨5, 28, 3, #[.bool false, .slice none 0 0, .slice none 0 0]⟩] [⟨6, ⟨5, 28, 3, #[.bool false, .slice none 0 0, .slice none 0 0]⟩, PT.frQ (((1 : Int) : Rat) - x)⟩] [PT.frQd ((1 : Int) : Rat), PT.val (.agg #[.bool b, .slice ad n1 cap, .slice ad2 n2 cap2]), PT.frQd x, PT.frQdS (((1 : Int) : Rat) - x) 36, PT.frQ (((1 : Int) : Rat) - x), PT.any, PT.any]
      (by kernel_rfl) (by kernel_rfl) (fun f => (by simp only [fillR, fillL, List.setIfInBounds_toArray, List.set_cons_succ, List.set_cons_zero, Nat.reduceAdd]; rfl)) ?_ ?_ ?_ ?_ ?_
    · intro x hx; simp only [List.mem_cons, List.not_mem_nil, or_false] at hx; rcases hx with rfl
      · exact ⟨rfl, rfl, by decide, by decide, rfl, rfl⟩
    · intro x hx; simp only [List.mem_cons, List.not_mem_nil, or_false] at hx; rcases hx with rfl <;> exact ⟨rfl, rfl, by simp⟩
    · intro x hx y hy h; simp only [List.mem_cons, List.not_mem_nil, or_false] at hx hy; rcases hx with rfl <;> rcases hy with rfl
      · exact absurd rfl h
    · refine ⟨?o0, ?o1, ?o2, ?o3, ?o4, ?o5, ?o6, trivial⟩
      case o0 =>
        intro f w5 hE hp
        have hS := hE.size
        change OpGoal _ _ _ f w5 Ext _
        refine og_call (P := Try.prog) _ _ _ #[.int .i64 1] Try.func66 (by kernel_rfl) (by kernel_rfl) rfl rfl (by kernel_rfl) ?_
        refine (rqsmall3_calls 1 _ (by omega) (by omega)).mono ?_
        rintro e w' ⟨v', rfl, h1, h2⟩
        exact ⟨v', rfl, h2, h1.mono hS⟩
      case o1 =>
        intro f w5 hE hp
        have hS := hE.size
        change OpGoal _ _ _ f w5 Ext _
        exact og_load (P := Try.prog) _ _ w.heap.size _ _ _ rfl rfl rfl (B4.ext hE) Try.underlying28 rfl (by kernel_rfl) rfl
      case o2 =>
        intro f w5 hE hp
        have hS := hE.size
        have q29 : f 1 = .agg #[.bool b, .slice ad n1 cap, .slice ad2 n2 cap2] := tellT hp 0 1 rfl rfl rfl
        change OpGoal _ _ _ f w5 Ext _
        refine og_call (P := Try.prog) _ _ _ #[f 1] Try.func30 (by kernel_rfl) (by kernel_rfl) rfl rfl (by kernel_rfl) ?_
        rw [q29]
        refine (rqof3_calls _ _ _ _ ((Hv.out.ext (E4.trans hE)).isQ dx dy (by omega) (by omega)) (by have := SX.out.1; omega) (by have := SX.out.2.1; omega)).mono ?_
        rw [show mkRat (rawN b xs) (rawD ys) = x from Hx.out.symm]
        rintro e w' ⟨v', rfl, h1, h2⟩
        exact ⟨v', rfl, h2, h1.mono hS⟩
      case o3 =>
        intro f w5 hE hp
        have hS := hE.size
        have q28 := tellT hp 0 0 rfl rfl rfl
        have q30 := tellT hp 1 2 rfl rfl rfl
        change OpGoal _ _ _ f w5 Ext _
        refine og_call (P := Try.prog) _ _ _ #[f 0, f 2] Try.func37 (by kernel_rfl) (by kernel_rfl) rfl rfl (by kernel_rfl) ?_
        refine (rqsub3_calls _ _ ((1 : Int) : Rat) x 5 30 _ q28.cq q30.cq h1D hxD (by omega)).mono ?_
        rintro e w' ⟨v', rfl, h1, h3, h2⟩
        exact ⟨v', rfl, h2, h1.mono hS, h3⟩
      case o4 =>
        intro f w5 hE hp
        have hS := hE.size
        have q31 := tellT hp 0 3 rfl rfl rfl
        change OpGoal _ _ _ f w5 Ext _
        refine og_call (P := Try.prog) _ _ _ #[f 3] Try.func19 (by kernel_rfl) (by kernel_rfl) rfl rfl (by kernel_rfl) ?_
        refine (rqto3_calls _ (((1 : Int) : Rat) - x) _ q31.1.cq (by have := q31.2; omega)).mono ?_
        rintro e w' ⟨v', rfl, h1, h2⟩
        exact ⟨v', rfl, h2, h1.mono hS⟩
      case o5 =>
        intro f w5 hE hp
        have hS := hE.size
        change OpGoal _ _ _ f w5 (fun a b => b = a.alloc _) _
        exact og_alloc (P := Try.prog) _ _ (.agg #[.bool false, .slice none 0 0, .slice none 0 0]) rfl rfl (by kernel_rfl) rfl
      case o6 =>
        intro f w5 hE hp
        have hS := hE.size
        have q32 := tellT hp 1 4 rfl rfl rfl
        intro g old hfa hSg hbx hsz hno
        change OpGoal _ _ _ f w5 (Chg g) _
        obtain ⟨cells, hv, hcs, hc1, hcn⟩ := FrQ.parts q32
        exact og_storeT (P := Try.prog) (PT.frQ (((1 : Int) : Rat) - x)) 3 _ _ _ g _ old cells rfl rfl hfa hv hbx (by rw [hcs]; kernel_rfl) hsz hcs hc1 hSg (show 28 ≠ 105 by decide) (show 28 ≠ 3 by decide) hno rfl (hv ▸ q32)
    · intro f w5 hE hp hal
      obtain ⟨ga9, ca9, fa9, la9, ba9, na9, pa9⟩ := hal ⟨5, 28, 3, #[.bool false, .slice none 0 0, .slice none 0 0]⟩ (by simp) (by decide)
      dsimp only at fa9 la9 ba9 na9
      have za9 := pa9 ⟨6, ⟨5, 28, 3, #[.bool false, .slice none 0 0, .slice none 0 0]⟩, PT.frQ (((1 : Int) : Rat) - x)⟩ (by simp) (by show 6 < 7; decide) rfl rfl
      clear pa9
      clear hp hal
      obtain ⟨b9, ad9, l9, cap9, bd9, m9, dap9, hv9, q9⟩ := FrQ.opn za9
      cases hv9
      have E5 := E4.trans hE
      have B5 := B4.ext hE
      have MA := Lib.hid (show ∀ wz u, Ext w5 wz → MeanAt (w3.heap.size + 1) wz c u ((1 : Int) : Rat) from fun wz u hz wy hy => mean_empty _ _ _ c u wy (Ba.out.ext ((hE.trans hz).trans hy)) (((hE.trans hz).trans hy).blk Ma.out))
      have BA := Lib.hid (Ba.out.ext hE)
      clear hE
      go_wp2_with fail
      refine wp_region_puts [] [PP.val (.pointer (some ⟨w3.heap.size + 1, 0, none⟩)), PP.val (.int .i64 c), PP.val (.agg #[.bool b, .slice ad n1 cap, .slice ad2 n2 cap2]), PP.frQ (scoreQ r ((1 : Int) : Rat) ((1 : Int) : Rat) x), PP.val (.pointer (some ⟨w3.heap.size + 1, 0, none⟩)), PP.val (.int .i64 c), PP.val (.agg #[.bool b9, .slice ad9 l9 cap9, .slice bd9 m9 dap9]), PP.frQ (scoreQ r ((1 : Int) : Rat) ((1 : Int) : Rat) x), PP.val (.bool true), PP.val (.bool true)] [] [0, 1, 2, 3, 4, 5, 6, 7, 8, 9]
        (by kernel_rfl) (by kernel_rfl) (fun f => (by simp only [fillR, fillL, List.setIfInBounds_toArray, List.set_cons_succ, List.set_cons_zero, Nat.reduceAdd]; rfl)) ?_ ?_ ?_ ?_ ?_
      · intro x hx; cases hx
      · intro x hx; cases hx
      · intro x hx; cases hx
      · refine ⟨?o0, ?o1, ?o2, ?o3, ?o4, ?o5, ?o6, ?o7, ?o8, ?o9, trivial⟩
        case o0 =>
          intro f w6 hG hp hl
          have hE : Ext w5 w6 := hG
          have hS := hE.size
          simp only [OpGoal]
          go_simp
          exact ⟨_, rfl, Ext.refl _, rfl⟩
        case o1 =>
          intro f w6 hG hp hl
          have hE : Ext w5 w6 := hG
          have hS := hE.size
          simp only [OpGoal]
          go_simp
          exact ⟨_, rfl, Ext.refl _, rfl⟩
        case o2 =>
          intro f w6 hG hp hl
          have hE : Ext w5 w6 := hG
          have hS := hE.size
          change OpGoal _ _ _ f w6 Ext _
          exact og_load (P := Try.prog) _ _ w.heap.size _ _ _ rfl rfl rfl (B5.ext hE) Try.underlying28 rfl (by kernel_rfl) rfl
        case o3 =>
          intro f w6 hG hp hl
          have hE : Ext w5 w6 := hG
          have hS := hE.size
          have q33 : f 0 = .pointer (some ⟨w3.heap.size + 1, 0, none⟩) := tellV hp 0 0 rfl rfl (fun h => by cases h)
          have q34 : f 1 = .int .i64 c := tellV hp 1 1 rfl rfl (fun h => by cases h)
          have q35 : f 2 = .agg #[.bool b, .slice ad n1 cap, .slice ad2 n2 cap2] := tellV hp 2 2 rfl rfl (fun h => by cases h)
          change OpGoal _ _ _ f w6 Ext _
          refine og_call (P := Try.prog) _ _ _ #[f 0, f 1, f 2] Try.func67 (by kernel_rfl) (by kernel_rfl) rfl rfl (by kernel_rfl) ?_
          rw [q33, q34, q35]
          refine (score_calls _ _ r c _ _ _ x 6 _ (BA.out.ext hE) (RX.out _ _ (Hv.out.ext (E5.trans hE))) (by omega) (MA.out _ _ hE) (MA.out _ _ hE) (by have := szQ_one; omega) (by have := szQ_one; omega)).mono ?_
          rintro e w' ⟨v', rfl, h1, h2⟩
          exact ⟨v', rfl, h2, h1.mono hS⟩
        case o4 =>
          intro f w6 hG hp hl
          have hE : Ext w5 w6 := hG
          have hS := hE.size
          simp only [OpGoal]
          go_simp
          exact ⟨_, rfl, Ext.refl _, rfl⟩
        case o5 =>
          intro f w6 hG hp hl
          have hE : Ext w5 w6 := hG
          have hS := hE.size
          simp only [OpGoal]
          go_simp
          exact ⟨_, rfl, Ext.refl _, rfl⟩
        case o6 =>
          intro f w6 hG hp hl
          have hE : Ext w5 w6 := hG
          have hS := hE.size
          change OpGoal _ _ _ f w6 Ext _
          exact og_load (P := Try.prog) _ _ ga9 _ _ _ rfl rfl rfl (ba9.ext hE) Try.underlying28 rfl (by kernel_rfl) rfl
        case o7 =>
          intro f w6 hG hp hl
          have hE : Ext w5 w6 := hG
          have hS := hE.size
          have q37 : f 4 = .pointer (some ⟨w3.heap.size + 1, 0, none⟩) := tellV hp 0 4 rfl rfl (fun h => by cases h)
          have q38 : f 5 = .int .i64 c := tellV hp 1 5 rfl rfl (fun h => by cases h)
          have q39 : f 6 = .agg #[.bool b9, .slice ad9 l9 cap9, .slice bd9 m9 dap9] := tellV hp 2 6 rfl rfl (fun h => by cases h)
          change OpGoal _ _ _ f w6 Ext _
          refine og_call (P := Try.prog) _ _ _ #[f 4, f 5, f 6] Try.func67 (by kernel_rfl) (by kernel_rfl) rfl rfl (by kernel_rfl) ?_
          rw [q37, q38, q39]
          refine (score_calls _ _ r c _ _ _ (((1 : Int) : Rat) - x) 8 _ (BA.out.ext hE) ((q9.ext hE).isR (by omega) (by omega)) (by omega) (MA.out _ _ hE) (MA.out _ _ hE) (by have := szQ_one; omega) (by have := szQ_one; omega)).mono ?_
          rw [HE.out]
          rintro e w' ⟨v', rfl, h1, h2⟩
          exact ⟨v', rfl, h2, h1.mono hS⟩
        case o8 =>
          intro f w6 hG hp hl
          have hE : Ext w5 w6 := hG
          have hS := hE.size
          have q36 := tellV hp 0 3 rfl rfl (fun _ => hE)
          have q40 := tellV hp 1 7 rfl rfl (fun _ => hE)
          change OpGoal _ _ _ f w6 Ext _
          refine og_call (P := Try.prog) _ _ _ #[f 3, f 7] Try.func18 (by kernel_rfl) (by kernel_rfl) rfl rfl (by kernel_rfl) ?_
          refine (same_true _ _ _ _ _ _ q36 q40).mono ?_
          rintro e w' ⟨rfl, h2⟩
          exact ⟨_, rfl, h2, rfl⟩
        case o9 =>
          intro f w6 hG hp hl
          have hE : Ext w5 w6 := hG
          have hS := hE.size
          have q41 : f 8 = .bool true := tellV hp 0 8 rfl rfl (fun h => by cases h)
          exact ⟨_, rfl, Ext.refl _, q41⟩
      · intro f w6 hG hp
        have hE : Ext w5 w6 := ChgS.nil hG
        have q6 : f 9 = .bool true := endV hp 9 (by decide) rfl (fun h => by cases h)
        try simp only [q6]
        clear hp
        go_wp2
        go_ret
        exact ⟨rfl, E5.trans hE⟩
  · have hr0 : r ≠ 0 := fun h => hr (.inl h)
    have hr1 : r ≠ 1 := fun h => hr (.inr h)
    clear hr
    go_wp2_with fail
    refine (bnew_bad r _ hr0 hr1).mono ?_
    rintro e w4 ⟨rfl, e4⟩
    go_wp2
    go_ret
    exact ⟨by simp [hr0, hr1], E3.trans e4⟩
end Go.Proofs.Ytkcnnlhaiahpbaa
