/-
  The law RatRounds returns true, whatever its fraction is.
-/
import Derived.Test.YtnefipinicfegaaQuotL
namespace Go.Proofs.Ytnefipinicfegaa
open Go.RowKit
set_option linter.unusedVariables false
set_option linter.unusedSimpArgs false

set_option maxRecDepth 100000 in
set_option maxHeartbeats 1000000 in
theorem FrZ.opn {B0 : Nat} {w : World} {v : Value} {z : Int} (h : FrZ B0 w v z) : ∃ b ad l cap, v = .agg #[.bool b, .slice ad l cap] ∧ FrZ B0 w (.agg #[.bool b, .slice ad l cap]) z := by
  have h' := h
  obtain ⟨s, rfl, hn⟩ := h
  obtain ⟨ad, cap, rfl⟩ := hn.slice
  exact ⟨_, _, _, _, rfl, h'⟩
set_option maxRecDepth 100000 in
set_option maxHeartbeats 1000000 in
theorem FrR.opn {B0 : Nat} {w : World} {v : Value} {b : Bool} {xs ys : List Nat} (h : FrR B0 w v b xs ys) : ∃ ad l cap ad2 l2 cap2, v = .agg #[.bool b, .slice ad l cap, .slice ad2 l2 cap2] ∧ FrR B0 w (.agg #[.bool b, .slice ad l cap, .slice ad2 l2 cap2]) b xs ys := by
  have h' := h
  obtain ⟨ad, cap, ad2, cap2, rfl⟩ := h.raw.opn
  exact ⟨_, _, _, _, _, _, rfl, h'⟩
set_option maxRecDepth 100000 in
set_option maxHeartbeats 1000000 in
theorem mkRat_one (z : Int) : mkRat z 1 = (z : Rat) := by
  have h := Rat.mkRat_self (z : Rat)
  rwa [Rat.num_intCast, Rat.den_intCast] at h
set_option maxRecDepth 100000 in
set_option maxHeartbeats 1000000 in
theorem whole_den (x : Rat) : decide (x = (x.floor : Rat)) = decide (x.den = 1) := by
  have h : x = (x.floor : Rat) ↔ x.den = 1 := by
    constructor
    · intro h
      rw [h]
      exact Rat.den_intCast _
    · intro h
      have hx := Rat.mkRat_self x
      rw [h, mkRat_one] at hx
      have hf : x.floor = x.num := by
        have := mkRat_floor x.num 1 (by omega)
        rw [mkRat_one, hx] at this
        rw [this]
        omega
      rw [hf]
      exact hx.symm
  simp only [h]
set_option maxRecDepth 100000 in
set_option maxHeartbeats 1000000 in
theorem szD_int (z : Int) : szD (z : Rat) ≤ max (szT z) 1 := by
  have h := szD_mkRat z 1 (by omega)
  rw [mkRat_one] at h
  have : sz TK 1 ≤ 1 := by
    refine dg_len_le TK_gt ?_
    rw [TK_eq]
    decide
  unfold szD
  omega
set_option maxRecDepth 100000 in
set_option maxHeartbeats 1000000 in
theorem szT_floor (q : Rat) : szT q.floor ≤ szD q + 1 := by
  rw [Rat.floor_def]
  have h : (q.num / (q.den : Int)).natAbs ≤ q.num.natAbs := Int.natAbs_ediv_le_natAbs _ _
  exact Nat.le_trans (dg_len_mono TK_gt h) (by unfold szD szT sz at *; omega)
set_option maxRecDepth 100000 in
set_option maxHeartbeats 1000000 in
theorem szT_ceil (q : Rat) : szT q.ceil ≤ szD q + 1 := by
  rw [Rat.ceil_eq_neg_floor_neg q, szT_neg, ← szD_neg]
  exact szT_floor _

set_option maxRecDepth 100000 in
set_option maxHeartbeats 4000000 in
theorem ratRounds_calls (v : Value) (b : Bool) (xs ys : List Nat) (w : World) (hv : RawQ w v b xs ys) (dx : Dig W xs) (dy : Dig W ys) (hl1 : xs.length + ys.length ≤ 9223372036854775807) :
    Calls Try.prog 5 #[v] w fun e w' => e = .returned (.bool true) ∧ Ext w w' := by
  have Hv := Lib.hid hv
  obtain ⟨ad, n1, cap, ad2, n2, cap2, hn1, hn2, rfl⟩ := hv.opn2
  have Hgs := Lib.hid (great_split (n1 + n2) (n1 + n2))
  clear hv
  have Hn1 := Lib.hid hn1
  have Hn2 := Lib.hid hn2
  clear hn1 hn2
  go_enter Try.func5, Try.ntmps5
  obtain ⟨w1, hw1, e1, b1, s1⟩ := alloc1 w #[.bool b, .slice ad n1 cap, .slice ad2 n2 cap2] 28
  go_wp2_with fail
  rw [← hw1]
  refine (speaks_calls _).mono ?_
  rintro e w2 ⟨rfl, e2⟩
  have B1 := b1.ext e2
  have E := e1.trans e2
  have hc0 := B1.cell 0
  have hc1 := B1.cell 1
  have hc2 := B1.cell 2
  go_wp2_with fail
  refine (great_calls _ _ b b xs ys xs ys _ (Hv.out.ext E) (Hv.out.ext E) (by have := Hn1.out; have := Hn2.out; omega) (by have := Hn1.out; have := Hn2.out; omega)).mono ?_
  rw [← Hn1.out, ← Hn2.out]
  rintro e w3 ⟨rfl, e3⟩
  rcases Hgs.out with hg | ⟨hg, hk1, _⟩
  · rw [hg]
    go_wp2
    go_ret
    exact ⟨rfl, E.trans e3⟩
  · rw [hg]
    have E3 := E.trans e3
    have C1 := B1.ext e3
    have X1 : xs.length ≤ 12 := by rw [← Hn1.out]; omega
    have X2 : ys.length ≤ 12 := by rw [← Hn2.out]; omega
    have lim : (12 : Nat) ≤ LIM := by rw [LIM_eq]; omega
    obtain ⟨x, hx⟩ : ∃ x, x = rawR b xs ys := ⟨_, rfl⟩
    have RX := Lib.hid (show ∀ wz vz, RawQ wz vz b xs ys → IsR wz vz x 12 from fun wz vz h => by rw [hx]; exact h.isR dx dy 12 X1 X2 (by omega) lim)
    have SX := Lib.hid (rawR_szD (b := b) dx dy 12 X1 X2 (by omega))
    have Hx := Lib.hid hx
    have hxD : szD x ≤ 60 := by rw [Hx.out]; exact SX.out.2.2
    have hfT := szT_floor x
    have hcT := szT_ceil x
    have hfD := szD_int x.floor
    obtain ⟨bw, hbw⟩ : ∃ bw, bw = decide (x.den = 1) := ⟨_, rfl⟩
    have Hbw1 := Lib.hid ((whole_den x).trans hbw.symm)
    have Hbw2 := Lib.hid hbw.symm
    clear hx hbw hc0 hc1 hc2
    have hc0 := C1.cell 0
    have hc1 := C1.cell 1
    have hc2 := C1.cell 2
    go_wp2_with fail
    refine (rqcopy3_calls _ b xs ys _ (Hv.out.ext E3) (by omega) (by omega)).mono ?_
    rintro e w4 ⟨v4, rfl, q4, e4⟩
    obtain ⟨ad4, l4, cap4, bd4, m4, dap4, rfl, q4⟩ := q4.opn
    obtain ⟨w5, hw5, e5, b5, s5⟩ := alloc1 w4 #[.bool b, .slice ad4 l4 cap4, .slice bd4 m4 dap4] 28
    have C5 := C1.ext (e4.trans e5)
    clear hc0 hc1 hc2
    have hc0 := C5.cell 0
    have hc1 := C5.cell 1
    have hc2 := C5.cell 2
    rw [hw5] at hc0 hc1 hc2
    go_wp2_with fail
    rw [← hw5]
    clear hc0 hc1 hc2
    have E5 := E3.trans (e4.trans e5)
    refine (rqof3_calls _ _ _ _ ((Hv.out.ext E5).isQ dx dy (by rw [LIM_eq]; omega) (by rw [LIM_eq]; omega)) (by have := SX.out.1; omega) (by have := SX.out.2.1; omega)).mono ?_
    rw [show mkRat (rawN b xs) (rawD ys) = x from Hx.out.symm]
    rintro e w6 ⟨v6, rfl, q6, e6⟩
    obtain ⟨b6, ad6, l6, cap6, bd6, m6, dap6, rfl, q6⟩ := q6.opn
    obtain ⟨w7, hw7, e7, b7, s7⟩ := alloc1 w6 #[.bool b6, .slice ad6 l6 cap6, .slice bd6 m6 dap6] 40
    have F7 := e6.trans e7
    have C7 := C5.ext F7
    have D7 := b5.ext F7
    have Q4 := q4.ext (e5.trans F7)
    have Q6 := q6.ext e7
    have E7 := E5.trans F7
    go_wp2_with fail
    rw [← hw7]
    refine wp_region_als [⟨6, 24, 2, #[.bool false, .slice none 0 0]⟩, ⟨7, 24, 2, #[.bool false, .slice none 0 0]⟩, ⟨8, 28, 3, #[.bool false, .slice none 0 0, .slice none 0 0]⟩] [⟨9, ⟨6, 24, 2, #[.bool false, .slice none 0 0]⟩, PA.frZ x.floor⟩, ⟨10, ⟨7, 24, 2, #[.bool false, .slice none 0 0]⟩, PA.frZ x.ceil⟩, ⟨11, ⟨8, 28, 3, #[.bool false, .slice none 0 0, .slice none 0 0]⟩, PA.frQ (x - (x.floor : Rat))⟩] [PA.val (.agg #[.bool b, .slice ad4 l4 cap4, .slice bd4 m4 dap4]), PA.frZ x.floor, PA.val (.agg #[.bool b, .slice ad4 l4 cap4, .slice bd4 m4 dap4]), PA.frZ x.ceil, PA.val (.agg #[.bool b, .slice ad4 l4 cap4, .slice bd4 m4 dap4]), PA.frQ (x - (x.floor : Rat)), PA.any, PA.any, PA.any, PA.any, PA.any, PA.any]
      (by kernel_rfl) (by kernel_rfl) (fun f => (by simp only [fillR, fillL, List.setIfInBounds_toArray, List.set_cons_succ, List.set_cons_zero, Nat.reduceAdd]; rfl)) ?_ ?_ ?_ ?_ ?_
    · intro x hx; simp only [List.mem_cons, List.not_mem_nil, or_false] at hx; rcases hx with rfl | rfl | rfl
      · exact ⟨rfl, rfl, by decide, by decide, rfl, noInt2 _ _ _ _⟩
      · exact ⟨rfl, rfl, by decide, by decide, rfl, noInt2 _ _ _ _⟩
      · exact ⟨rfl, rfl, by decide, by decide, rfl, noInt3 _ _ _ _ _ _ _⟩
    · intro x hx; simp only [List.mem_cons, List.not_mem_nil, or_false] at hx; rcases hx with rfl | rfl | rfl <;> exact ⟨rfl, rfl, by simp⟩
    · intro x hx y hy h; simp only [List.mem_cons, List.not_mem_nil, or_false] at hx hy; rcases hx with rfl | rfl | rfl <;> rcases hy with rfl | rfl | rfl
      · exact absurd rfl h
      · show 6 ≠ 7; decide
      · show 6 ≠ 8; decide
      · show 7 ≠ 6; decide
      · exact absurd rfl h
      · show 7 ≠ 8; decide
      · show 8 ≠ 6; decide
      · show 8 ≠ 7; decide
      · exact absurd rfl h
    · refine ⟨?o0, ?o1, ?o2, ?o3, ?o4, ?o5, ?o6, ?o7, ?o8, ?o9, ?o10, ?o11, trivial⟩
      case o0 =>
        intro f w8 hE hp
        have hS := hE.size
        change OpGoal _ _ _ f w8 Ext _
        exact og_load (P := Try.prog) _ _ w4.heap.size _ _ _ rfl rfl rfl (D7.ext hE) Try.underlying28 rfl (by kernel_rfl) rfl
      case o1 =>
        intro f w8 hE hp
        have hS := hE.size
        have q18 : f 0 = .agg #[.bool b, .slice ad4 l4 cap4, .slice bd4 m4 dap4] := tellA hp 0 0 rfl rfl rfl
        change OpGoal _ _ _ f w8 Ext _
        refine og_call (P := Try.prog) _ _ _ #[f 0] Try.func29 (by kernel_rfl) (by kernel_rfl) rfl rfl (by kernel_rfl) ?_
        rw [q18]
        refine (rfloor_calls _ x 12 _ (RX.out _ _ (Q4.ext hE).raw) (by omega)).mono ?_
        rintro e w' ⟨v', rfl, h1, _, h2⟩
        exact ⟨v', rfl, h2, h1.mono hS⟩
      case o2 =>
        intro f w8 hE hp
        have hS := hE.size
        change OpGoal _ _ _ f w8 Ext _
        exact og_load (P := Try.prog) _ _ w4.heap.size _ _ _ rfl rfl rfl (D7.ext hE) Try.underlying28 rfl (by kernel_rfl) rfl
      case o3 =>
        intro f w8 hE hp
        have hS := hE.size
        have q20 : f 2 = .agg #[.bool b, .slice ad4 l4 cap4, .slice bd4 m4 dap4] := tellA hp 0 2 rfl rfl rfl
        change OpGoal _ _ _ f w8 Ext _
        refine og_call (P := Try.prog) _ _ _ #[f 2] Try.func30 (by kernel_rfl) (by kernel_rfl) rfl rfl (by kernel_rfl) ?_
        rw [q20]
        refine (rceil_calls _ x 12 _ (RX.out _ _ (Q4.ext hE).raw) (by omega)).mono ?_
        rintro e w' ⟨v', rfl, h1, _, h2⟩
        exact ⟨v', rfl, h2, h1.mono hS⟩
      case o4 =>
        intro f w8 hE hp
        have hS := hE.size
        change OpGoal _ _ _ f w8 Ext _
        exact og_load (P := Try.prog) _ _ w4.heap.size _ _ _ rfl rfl rfl (D7.ext hE) Try.underlying28 rfl (by kernel_rfl) rfl
      case o5 =>
        intro f w8 hE hp
        have hS := hE.size
        have q22 : f 4 = .agg #[.bool b, .slice ad4 l4 cap4, .slice bd4 m4 dap4] := tellA hp 0 4 rfl rfl rfl
        change OpGoal _ _ _ f w8 Ext _
        refine og_call (P := Try.prog) _ _ _ #[f 4] Try.func31 (by kernel_rfl) (by kernel_rfl) rfl rfl (by kernel_rfl) ?_
        rw [q22]
        refine (rfrac_calls _ x 12 _ (RX.out _ _ (Q4.ext hE).raw) (by omega)).mono ?_
        rintro e w' ⟨v', rfl, h1, _, h2⟩
        exact ⟨v', rfl, h2, h1.mono hS⟩
      case o6 =>
        intro f w8 hE hp
        have hS := hE.size
        change OpGoal _ _ _ f w8 (fun a b => b = a.alloc _) _
        exact og_alloc (P := Try.prog) _ _ (.agg #[.bool false, .slice none 0 0]) rfl rfl (by kernel_rfl) rfl
      case o7 =>
        intro f w8 hE hp
        have hS := hE.size
        change OpGoal _ _ _ f w8 (fun a b => b = a.alloc _) _
        exact og_alloc (P := Try.prog) _ _ (.agg #[.bool false, .slice none 0 0]) rfl rfl (by kernel_rfl) rfl
      case o8 =>
        intro f w8 hE hp
        have hS := hE.size
        change OpGoal _ _ _ f w8 (fun a b => b = a.alloc _) _
        exact og_alloc (P := Try.prog) _ _ (.agg #[.bool false, .slice none 0 0, .slice none 0 0]) rfl rfl (by kernel_rfl) rfl
      case o9 =>
        intro f w8 hE hp
        have hS := hE.size
        have q19 := tellA hp 1 1 rfl rfl rfl
        intro g old hfa hSg hbx hsz hno
        change OpGoal _ _ _ f w8 (Chg g) _
        obtain ⟨cells, hv, hcs, hc1, hcn⟩ := FrZ.parts q19
        exact og_storeA (P := Try.prog) (PA.frZ x.floor) 2 _ _ _ g _ old cells rfl rfl hfa hv hbx (by rw [hcs]; kernel_rfl) hsz hcs hc1 hSg (show 24 ≠ 79 by decide) (show 24 ≠ 3 by decide) hno hcn (hv ▸ q19)
      case o10 =>
        intro f w8 hE hp
        have hS := hE.size
        have q21 := tellA hp 1 3 rfl rfl rfl
        intro g old hfa hSg hbx hsz hno
        change OpGoal _ _ _ f w8 (Chg g) _
        obtain ⟨cells, hv, hcs, hc1, hcn⟩ := FrZ.parts q21
        exact og_storeA (P := Try.prog) (PA.frZ x.ceil) 2 _ _ _ g _ old cells rfl rfl hfa hv hbx (by rw [hcs]; kernel_rfl) hsz hcs hc1 hSg (show 24 ≠ 79 by decide) (show 24 ≠ 3 by decide) hno hcn (hv ▸ q21)
      case o11 =>
        intro f w8 hE hp
        have hS := hE.size
        have q23 := tellA hp 1 5 rfl rfl rfl
        intro g old hfa hSg hbx hsz hno
        change OpGoal _ _ _ f w8 (Chg g) _
        obtain ⟨cells, hv, hcs, hc1, hcn⟩ := FrQ.parts q23
        exact og_storeA (P := Try.prog) (PA.frQ (x - (x.floor : Rat))) 3 _ _ _ g _ old cells rfl rfl hfa hv hbx (by rw [hcs]; kernel_rfl) hsz hcs hc1 hSg (show 28 ≠ 79 by decide) (show 28 ≠ 3 by decide) hno hcn (hv ▸ q23)
    · intro f w8 hE hp hal
      obtain ⟨ga5, ca5, fa5, la5, ba5, na5, pa5⟩ := hal ⟨6, 24, 2, #[.bool false, .slice none 0 0]⟩ (by simp) (by decide)
      dsimp only at fa5 la5 ba5 na5
      have za5 := pa5 ⟨9, ⟨6, 24, 2, #[.bool false, .slice none 0 0]⟩, PA.frZ x.floor⟩ (by simp) (by show 9 < 12; decide) rfl rfl
      clear pa5
      obtain ⟨ga6, ca6, fa6, la6, ba6, na6, pa6⟩ := hal ⟨7, 24, 2, #[.bool false, .slice none 0 0]⟩ (by simp) (by decide)
      dsimp only at fa6 la6 ba6 na6
      have za6 := pa6 ⟨10, ⟨7, 24, 2, #[.bool false, .slice none 0 0]⟩, PA.frZ x.ceil⟩ (by simp) (by show 10 < 12; decide) rfl rfl
      clear pa6
      obtain ⟨ga7, ca7, fa7, la7, ba7, na7, pa7⟩ := hal ⟨8, 28, 3, #[.bool false, .slice none 0 0, .slice none 0 0]⟩ (by simp) (by decide)
      dsimp only at fa7 la7 ba7 na7
      have za7 := pa7 ⟨11, ⟨8, 28, 3, #[.bool false, .slice none 0 0, .slice none 0 0]⟩, PA.frQ (x - (x.floor : Rat))⟩ (by simp) (by show 11 < 12; decide) rfl rfl
      clear pa7
      clear hp hal
      obtain ⟨c5, ad8, l8, cap8, hv5, z5⟩ := FrZ.opn za5
      cases hv5
      obtain ⟨c6, ad9, l9, cap9, hv6, z6⟩ := FrZ.opn za6
      cases hv6
      obtain ⟨c7, ad10, l10, cap10, bd10, m10, dap10, hv7, z7⟩ := FrQ.opn za7
      cases hv7
      have G7 := b7.ext hE
      have Q6' := Q6.cq.ext hE
      have Q4' := Q4.ext hE
      have C8 := C7.ext hE
      have D8 := D7.ext hE
      have E8 := E7.trans hE
      go_wp2_with fail
      refine wp_region_puts [] [PP.val (.agg #[.bool c5, .slice ad8 l8 cap8]), PP.val (.agg #[.bool b6, .slice ad6 l6 cap6, .slice bd6 m6 dap6]), PP.frZd x.floor, PP.frZ x.floor, PP.val (.bool true), PP.val (.bool true), PP.val (.agg #[.bool c6, .slice ad9 l9 cap9]), PP.val (.agg #[.bool b6, .slice ad6 l6 cap6, .slice bd6 m6 dap6]), PP.frZd x.ceil, PP.frZ x.ceil, PP.val (.bool true), PP.val (.bool true), PP.val (.bool true), PP.val (.agg #[.bool c7, .slice ad10 l10 cap10, .slice bd10 m10 dap10]), PP.val (.agg #[.bool b6, .slice ad6 l6 cap6, .slice bd6 m6 dap6]), PP.val (.agg #[.bool b6, .slice ad6 l6 cap6, .slice bd6 m6 dap6]), PP.frZd x.floor, PP.frQd (x.floor : Rat), PP.frQdS (x - (x.floor : Rat)) (60 + 62 + 1), PP.frQ (x - (x.floor : Rat)), PP.val (.bool true), PP.val (.bool true), PP.val (.bool true)] [] [0, 1, 2, 3, 4, 5, 6, 7, 8, 9, 10, 11, 12, 13, 14, 15, 16, 17, 18, 19, 20, 21, 22]
        (by kernel_rfl) (by kernel_rfl) (fun f => (by simp only [fillR, fillL, List.setIfInBounds_toArray, List.set_cons_succ, List.set_cons_zero, Nat.reduceAdd]; rfl)) ?_ ?_ ?_ ?_ ?_
      · intro x hx; cases hx
      · intro x hx; cases hx
      · intro x hx; cases hx
      · refine ⟨?o0, ?o1, ?o2, ?o3, ?o4, ?o5, ?o6, ?o7, ?o8, ?o9, ?o10, ?o11, ?o12, ?o13, ?o14, ?o15, ?o16, ?o17, ?o18, ?o19, ?o20, ?o21, ?o22, trivial⟩
        case o0 =>
          intro f w9 hG hp hl
          have hE : Ext w8 w9 := hG
          have hS := hE.size
          change OpGoal _ _ _ f w9 Ext _
          exact og_load (P := Try.prog) _ _ ga5 _ _ _ rfl rfl rfl (ba5.ext hE) Try.underlying24 rfl (by kernel_rfl) rfl
        case o1 =>
          intro f w9 hG hp hl
          have hE : Ext w8 w9 := hG
          have hS := hE.size
          change OpGoal _ _ _ f w9 Ext _
          exact og_load (P := Try.prog) _ _ w6.heap.size _ _ _ rfl rfl rfl (G7.ext hE) Try.underlying40 rfl (by kernel_rfl) rfl
        case o2 =>
          intro f w9 hG hp hl
          have hE : Ext w8 w9 := hG
          have hS := hE.size
          have q25 : f 1 = .agg #[.bool b6, .slice ad6 l6 cap6, .slice bd6 m6 dap6] := tellV hp 0 1 rfl rfl (fun h => by cases h)
          change OpGoal _ _ _ f w9 Ext _
          refine og_call (P := Try.prog) _ _ _ #[f 1] Try.func33 (by kernel_rfl) (by kernel_rfl) rfl rfl (by kernel_rfl) ?_
          rw [q25]
          refine (rqfloor3_calls _ x _ (Q6'.ext hE) (by omega)).mono ?_
          rintro e w' ⟨v', rfl, h1, _, h2⟩
          exact ⟨v', rfl, h2, h1.mono hS⟩
        case o3 =>
          intro f w9 hG hp hl
          have hE : Ext w8 w9 := hG
          have hS := hE.size
          have q26 := tellV hp 0 2 rfl rfl (fun _ => hE)
          change OpGoal _ _ _ f w9 Ext _
          refine og_call (P := Try.prog) _ _ _ #[f 2] Try.func32 (by kernel_rfl) (by kernel_rfl) rfl rfl (by kernel_rfl) ?_
          refine (zto2_calls _ x.floor _ q26.cz (by omega)).mono ?_
          rintro e w' ⟨v', rfl, h1, h2⟩
          exact ⟨v', rfl, h2, h1.mono hS⟩
        case o4 =>
          intro f w9 hG hp hl
          have hE : Ext w8 w9 := hG
          have hS := hE.size
          have q24 : f 0 = .agg #[.bool c5, .slice ad8 l8 cap8] := tellV hp 0 0 rfl rfl (fun h => by cases h)
          have q27 := tellV hp 1 3 rfl rfl (fun _ => hE)
          change OpGoal _ _ _ f w9 Ext _
          refine og_call (P := Try.prog) _ _ _ #[f 0, f 3] Try.func19 (by kernel_rfl) (by kernel_rfl) rfl rfl (by kernel_rfl) ?_
          rw [q24]
          refine (zsame_true _ _ _ _ _ _ (z5.ext hE) q27).mono ?_
          rintro e w' ⟨rfl, h2⟩
          exact ⟨_, rfl, h2, rfl⟩
        case o5 =>
          intro f w9 hG hp hl
          have hE : Ext w8 w9 := hG
          have hS := hE.size
          have q28 : f 4 = .bool true := tellV hp 0 4 rfl rfl (fun h => by cases h)
          simp only [OpGoal]
          go_simp
          exact ⟨_, rfl, Ext.refl _, rfl⟩
        case o6 =>
          intro f w9 hG hp hl
          have hE : Ext w8 w9 := hG
          have hS := hE.size
          have qg : f 5 = .bool true := tellV hp 0 5 rfl rfl (fun h => by cases h)
          change OpGoal _ _ _ f w9 Ext _
          refine og_guard (j := 5) (want := true) rfl qg ?_
          change OpGoal _ _ _ f w9 Ext _
          exact og_load (P := Try.prog) _ _ ga6 _ _ _ rfl rfl rfl (ba6.ext hE) Try.underlying24 rfl (by kernel_rfl) rfl
        case o7 =>
          intro f w9 hG hp hl
          have hE : Ext w8 w9 := hG
          have hS := hE.size
          have qg : f 5 = .bool true := tellV hp 0 5 rfl rfl (fun h => by cases h)
          change OpGoal _ _ _ f w9 Ext _
          refine og_guard (j := 5) (want := true) rfl qg ?_
          change OpGoal _ _ _ f w9 Ext _
          exact og_load (P := Try.prog) _ _ w6.heap.size _ _ _ rfl rfl rfl (G7.ext hE) Try.underlying40 rfl (by kernel_rfl) rfl
        case o8 =>
          intro f w9 hG hp hl
          have hE : Ext w8 w9 := hG
          have hS := hE.size
          have q31 : f 7 = .agg #[.bool b6, .slice ad6 l6 cap6, .slice bd6 m6 dap6] := tellV hp 0 7 rfl rfl (fun h => by cases h)
          have qg : f 5 = .bool true := tellV hp 1 5 rfl rfl (fun h => by cases h)
          change OpGoal _ _ _ f w9 Ext _
          refine og_guard (j := 5) (want := true) rfl qg ?_
          change OpGoal _ _ _ f w9 Ext _
          refine og_call (P := Try.prog) _ _ _ #[f 7] Try.func34 (by kernel_rfl) (by kernel_rfl) rfl rfl (by kernel_rfl) ?_
          rw [q31]
          refine (rqceil3_calls _ x _ (Q6'.ext hE) (by omega)).mono ?_
          rintro e w' ⟨v', rfl, h1, _, h2⟩
          exact ⟨v', rfl, h2, h1.mono hS⟩
        case o9 =>
          intro f w9 hG hp hl
          have hE : Ext w8 w9 := hG
          have hS := hE.size
          have q32 := tellV hp 0 8 rfl rfl (fun _ => hE)
          have qg : f 5 = .bool true := tellV hp 2 5 rfl rfl (fun h => by cases h)
          change OpGoal _ _ _ f w9 Ext _
          refine og_guard (j := 5) (want := true) rfl qg ?_
          change OpGoal _ _ _ f w9 Ext _
          refine og_call (P := Try.prog) _ _ _ #[f 8] Try.func32 (by kernel_rfl) (by kernel_rfl) rfl rfl (by kernel_rfl) ?_
          refine (zto2_calls _ x.ceil _ q32.cz (by omega)).mono ?_
          rintro e w' ⟨v', rfl, h1, h2⟩
          exact ⟨v', rfl, h2, h1.mono hS⟩
        case o10 =>
          intro f w9 hG hp hl
          have hE : Ext w8 w9 := hG
          have hS := hE.size
          have q30 : f 6 = .agg #[.bool c6, .slice ad9 l9 cap9] := tellV hp 0 6 rfl rfl (fun h => by cases h)
          have q33 := tellV hp 1 9 rfl rfl (fun _ => hE)
          have qg : f 5 = .bool true := tellV hp 3 5 rfl rfl (fun h => by cases h)
          change OpGoal _ _ _ f w9 Ext _
          refine og_guard (j := 5) (want := true) rfl qg ?_
          change OpGoal _ _ _ f w9 Ext _
          refine og_call (P := Try.prog) _ _ _ #[f 6, f 9] Try.func19 (by kernel_rfl) (by kernel_rfl) rfl rfl (by kernel_rfl) ?_
          rw [q30]
          refine (zsame_true _ _ _ _ _ _ (z6.ext hE) q33).mono ?_
          rintro e w' ⟨rfl, h2⟩
          exact ⟨_, rfl, h2, rfl⟩
        case o11 =>
          intro f w9 hG hp hl
          have hE : Ext w8 w9 := hG
          have hS := hE.size
          have q29 : f 5 = .bool true := tellV hp 0 5 rfl rfl (fun h => by cases h)
          have q34 : f 10 = .bool true := tellV hp 1 10 rfl rfl (fun h => by cases h)
          simp only [OpGoal]
          go_simp
          exact ⟨_, rfl, Ext.refl _, rfl⟩
        case o12 =>
          intro f w9 hG hp hl
          have hE : Ext w8 w9 := hG
          have hS := hE.size
          have q35 : f 11 = .bool true := tellV hp 0 11 rfl rfl (fun h => by cases h)
          simp only [OpGoal]
          go_simp
          exact ⟨_, rfl, Ext.refl _, rfl⟩
        case o13 =>
          intro f w9 hG hp hl
          have hE : Ext w8 w9 := hG
          have hS := hE.size
          have qg : f 12 = .bool true := tellV hp 0 12 rfl rfl (fun h => by cases h)
          change OpGoal _ _ _ f w9 Ext _
          refine og_guard (j := 12) (want := true) rfl qg ?_
          change OpGoal _ _ _ f w9 Ext _
          exact og_load (P := Try.prog) _ _ ga7 _ _ _ rfl rfl rfl (ba7.ext hE) Try.underlying28 rfl (by kernel_rfl) rfl
        case o14 =>
          intro f w9 hG hp hl
          have hE : Ext w8 w9 := hG
          have hS := hE.size
          have qg : f 12 = .bool true := tellV hp 0 12 rfl rfl (fun h => by cases h)
          change OpGoal _ _ _ f w9 Ext _
          refine og_guard (j := 12) (want := true) rfl qg ?_
          change OpGoal _ _ _ f w9 Ext _
          exact og_load (P := Try.prog) _ _ w6.heap.size _ _ _ rfl rfl rfl (G7.ext hE) Try.underlying40 rfl (by kernel_rfl) rfl
        case o15 =>
          intro f w9 hG hp hl
          have hE : Ext w8 w9 := hG
          have hS := hE.size
          have qg : f 12 = .bool true := tellV hp 0 12 rfl rfl (fun h => by cases h)
          change OpGoal _ _ _ f w9 Ext _
          refine og_guard (j := 12) (want := true) rfl qg ?_
          change OpGoal _ _ _ f w9 Ext _
          exact og_load (P := Try.prog) _ _ w6.heap.size _ _ _ rfl rfl rfl (G7.ext hE) Try.underlying40 rfl (by kernel_rfl) rfl
        case o16 =>
          intro f w9 hG hp hl
          have hE : Ext w8 w9 := hG
          have hS := hE.size
          have q39 : f 15 = .agg #[.bool b6, .slice ad6 l6 cap6, .slice bd6 m6 dap6] := tellV hp 0 15 rfl rfl (fun h => by cases h)
          have qg : f 12 = .bool true := tellV hp 1 12 rfl rfl (fun h => by cases h)
          change OpGoal _ _ _ f w9 Ext _
          refine og_guard (j := 12) (want := true) rfl qg ?_
          change OpGoal _ _ _ f w9 Ext _
          refine og_call (P := Try.prog) _ _ _ #[f 15] Try.func33 (by kernel_rfl) (by kernel_rfl) rfl rfl (by kernel_rfl) ?_
          rw [q39]
          refine (rqfloor3_calls _ x _ (Q6'.ext hE) (by omega)).mono ?_
          rintro e w' ⟨v', rfl, h1, _, h2⟩
          exact ⟨v', rfl, h2, h1.mono hS⟩
        case o17 =>
          intro f w9 hG hp hl
          have hE : Ext w8 w9 := hG
          have hS := hE.size
          have q40 := tellV hp 0 16 rfl rfl (fun _ => hE)
          have qg : f 12 = .bool true := tellV hp 2 12 rfl rfl (fun h => by cases h)
          change OpGoal _ _ _ f w9 Ext _
          refine og_guard (j := 12) (want := true) rfl qg ?_
          change OpGoal _ _ _ f w9 Ext _
          refine og_call (P := Try.prog) _ _ _ #[f 16] Try.func18 (by kernel_rfl) (by kernel_rfl) rfl rfl (by kernel_rfl) ?_
          refine (rqwhole3_calls _ x.floor _ q40.cz (by omega)).mono ?_
          rintro e w' ⟨v', rfl, h1, h2⟩
          exact ⟨v', rfl, h2, h1.mono hS⟩
        case o18 =>
          intro f w9 hG hp hl
          have hE : Ext w8 w9 := hG
          have hS := hE.size
          have q38 : f 14 = .agg #[.bool b6, .slice ad6 l6 cap6, .slice bd6 m6 dap6] := tellV hp 0 14 rfl rfl (fun h => by cases h)
          have q41 := tellV hp 1 17 rfl rfl (fun _ => hE)
          have qg : f 12 = .bool true := tellV hp 3 12 rfl rfl (fun h => by cases h)
          change OpGoal _ _ _ f w9 Ext _
          refine og_guard (j := 12) (want := true) rfl qg ?_
          change OpGoal _ _ _ f w9 Ext _
          refine og_call (P := Try.prog) _ _ _ #[f 14, f 17] Try.func35 (by kernel_rfl) (by kernel_rfl) rfl rfl (by kernel_rfl) ?_
          rw [q38]
          refine (rqsub3_calls _ _ x (x.floor : Rat) 60 62 _ (Q6'.ext hE) q41.cq hxD (by omega) (by omega)).mono ?_
          rintro e w' ⟨v', rfl, h1, h3, h2⟩
          exact ⟨v', rfl, h2, h1.mono hS, h3⟩
        case o19 =>
          intro f w9 hG hp hl
          have hE : Ext w8 w9 := hG
          have hS := hE.size
          have q42 := tellV hp 0 18 rfl rfl (fun _ => hE)
          have qg : f 12 = .bool true := tellV hp 2 12 rfl rfl (fun h => by cases h)
          change OpGoal _ _ _ f w9 Ext _
          refine og_guard (j := 12) (want := true) rfl qg ?_
          change OpGoal _ _ _ f w9 Ext _
          refine og_call (P := Try.prog) _ _ _ #[f 18] Try.func17 (by kernel_rfl) (by kernel_rfl) rfl rfl (by kernel_rfl) ?_
          refine (rqto3_calls _ _ _ q42.1.cq (by have := q42.2; omega)).mono ?_
          rintro e w' ⟨v', rfl, h1, h2⟩
          exact ⟨v', rfl, h2, h1.mono hS⟩
        case o20 =>
          intro f w9 hG hp hl
          have hE : Ext w8 w9 := hG
          have hS := hE.size
          have q37 : f 13 = .agg #[.bool c7, .slice ad10 l10 cap10, .slice bd10 m10 dap10] := tellV hp 0 13 rfl rfl (fun h => by cases h)
          have q43 := tellV hp 1 19 rfl rfl (fun _ => hE)
          have qg : f 12 = .bool true := tellV hp 3 12 rfl rfl (fun h => by cases h)
          change OpGoal _ _ _ f w9 Ext _
          refine og_guard (j := 12) (want := true) rfl qg ?_
          change OpGoal _ _ _ f w9 Ext _
          refine og_call (P := Try.prog) _ _ _ #[f 13, f 19] Try.func16 (by kernel_rfl) (by kernel_rfl) rfl rfl (by kernel_rfl) ?_
          rw [q37]
          refine (same_true _ _ _ _ _ _ (z7.ext hE) q43).mono ?_
          rintro e w' ⟨rfl, h2⟩
          exact ⟨_, rfl, h2, rfl⟩
        case o21 =>
          intro f w9 hG hp hl
          have hE : Ext w8 w9 := hG
          have hS := hE.size
          have q36 : f 12 = .bool true := tellV hp 0 12 rfl rfl (fun h => by cases h)
          have q44 : f 20 = .bool true := tellV hp 1 20 rfl rfl (fun h => by cases h)
          simp only [OpGoal]
          go_simp
          exact ⟨_, rfl, Ext.refl _, rfl⟩
        case o22 =>
          intro f w9 hG hp hl
          have hE : Ext w8 w9 := hG
          have hS := hE.size
          have q45 : f 21 = .bool true := tellV hp 0 21 rfl rfl (fun h => by cases h)
          simp only [OpGoal]
          go_simp
          exact ⟨_, rfl, Ext.refl _, rfl⟩
      · intro f w9 hG hp
        have hE : Ext w8 w9 := ChgS.nil hG
        have q8 : f 22 = .bool true := endV hp 22 (by decide) rfl (fun h => by cases h)
        try simp only [q8]
        clear hp
        have D9 := D8.ext hE
        have C9 := C8.ext hE
        have G9 := G7.ext hE
        have Q6c := Q6'.ext hE
        have Q4c := Q4'.ext hE
        have E9 := E8.trans hE
        go_wp2_with fail
        refine wp_region_puts [] [PP.val (.bool true), PP.val (.bool true), PP.val (.agg #[.bool b, .slice ad4 l4 cap4, .slice bd4 m4 dap4]), PP.val (.bool bw), PP.val (.agg #[.bool b6, .slice ad6 l6 cap6, .slice bd6 m6 dap6]), PP.val (.bool bw), PP.val (.bool true), PP.val (.bool true), PP.val (.bool true), PP.val (.agg #[.bool b, .slice ad4 l4 cap4, .slice bd4 m4 dap4]), PP.val (.agg #[.bool b, .slice ad n1 cap, .slice ad2 n2 cap2]), PP.val (.bool true), PP.val (.bool true), PP.val (.bool true)] [] [0, 1, 2, 3, 4, 5, 6, 7, 8, 9, 10, 11, 12, 13]
          (by kernel_rfl) (by kernel_rfl) (fun f => (by simp only [fillR, fillL, List.setIfInBounds_toArray, List.set_cons_succ, List.set_cons_zero, Nat.reduceAdd]; rfl)) ?_ ?_ ?_ ?_ ?_
        · intro x hx; cases hx
        · intro x hx; cases hx
        · intro x hx; cases hx
        · refine ⟨?o0, ?o1, ?o2, ?o3, ?o4, ?o5, ?o6, ?o7, ?o8, ?o9, ?o10, ?o11, ?o12, ?o13, trivial⟩
          case o0 =>
            intro f w10 hG hp hl
            have hE : Ext w9 w10 := hG
            have hS := hE.size
            simp only [OpGoal]
            go_simp
            exact ⟨_, rfl, Ext.refl _, rfl⟩
          case o1 =>
            intro f w10 hG hp hl
            have hE : Ext w9 w10 := hG
            have hS := hE.size
            have q46 : f 0 = .bool true := tellV hp 0 0 rfl rfl (fun h => by cases h)
            simp only [OpGoal]
            go_simp
            exact ⟨_, rfl, Ext.refl _, rfl⟩
          case o2 =>
            intro f w10 hG hp hl
            have hE : Ext w9 w10 := hG
            have hS := hE.size
            have qg : f 1 = .bool true := tellV hp 0 1 rfl rfl (fun h => by cases h)
            change OpGoal _ _ _ f w10 Ext _
            refine og_guard (j := 1) (want := true) rfl qg ?_
            change OpGoal _ _ _ f w10 Ext _
            exact og_load (P := Try.prog) _ _ w4.heap.size _ _ _ rfl rfl rfl (D9.ext hE) Try.underlying28 rfl (by kernel_rfl) rfl
          case o3 =>
            intro f w10 hG hp hl
            have hE : Ext w9 w10 := hG
            have hS := hE.size
            have q48 : f 2 = .agg #[.bool b, .slice ad4 l4 cap4, .slice bd4 m4 dap4] := tellV hp 0 2 rfl rfl (fun h => by cases h)
            have qg : f 1 = .bool true := tellV hp 1 1 rfl rfl (fun h => by cases h)
            change OpGoal _ _ _ f w10 Ext _
            refine og_guard (j := 1) (want := true) rfl qg ?_
            change OpGoal _ _ _ f w10 Ext _
            refine og_call (P := Try.prog) _ _ _ #[f 2] Try.func36 (by kernel_rfl) (by kernel_rfl) rfl rfl (by kernel_rfl) ?_
            rw [q48]
            refine (riswhole_calls _ x 12 _ (RX.out _ _ (Q4c.ext hE).raw) (by omega)).mono ?_
            rintro e w' ⟨rfl, h2⟩
            exact ⟨_, rfl, h2, congrArg Value.bool Hbw1.out⟩
          case o4 =>
            intro f w10 hG hp hl
            have hE : Ext w9 w10 := hG
            have hS := hE.size
            have qg : f 1 = .bool true := tellV hp 0 1 rfl rfl (fun h => by cases h)
            change OpGoal _ _ _ f w10 Ext _
            refine og_guard (j := 1) (want := true) rfl qg ?_
            change OpGoal _ _ _ f w10 Ext _
            exact og_load (P := Try.prog) _ _ w6.heap.size _ _ _ rfl rfl rfl (G9.ext hE) Try.underlying40 rfl (by kernel_rfl) rfl
          case o5 =>
            intro f w10 hG hp hl
            have hE : Ext w9 w10 := hG
            have hS := hE.size
            have q50 : f 4 = .agg #[.bool b6, .slice ad6 l6 cap6, .slice bd6 m6 dap6] := tellV hp 0 4 rfl rfl (fun h => by cases h)
            have qg : f 1 = .bool true := tellV hp 2 1 rfl rfl (fun h => by cases h)
            change OpGoal _ _ _ f w10 Ext _
            refine og_guard (j := 1) (want := true) rfl qg ?_
            change OpGoal _ _ _ f w10 Ext _
            refine og_call (P := Try.prog) _ _ _ #[f 4] Try.func37 (by kernel_rfl) (by kernel_rfl) rfl rfl (by kernel_rfl) ?_
            rw [q50]
            refine (rqiswhole3_calls _ x _ (Q6c.ext hE) (by omega)).mono ?_
            rintro e w' ⟨rfl, h2⟩
            exact ⟨_, rfl, h2, congrArg Value.bool Hbw2.out⟩
          case o6 =>
            intro f w10 hG hp hl
            have hE : Ext w9 w10 := hG
            have hS := hE.size
            have q49 : f 3 = .bool bw := tellV hp 0 3 rfl rfl (fun h => by cases h)
            have q51 : f 5 = .bool bw := tellV hp 1 5 rfl rfl (fun h => by cases h)
            have qg : f 1 = .bool true := tellV hp 2 1 rfl rfl (fun h => by cases h)
            change OpGoal _ _ _ f w10 Ext _
            refine og_guard (j := 1) (want := true) rfl qg ?_
            simp only [OpGoal]
            go_simp
            exact ⟨_, rfl, Ext.refl _, rfl⟩
          case o7 =>
            intro f w10 hG hp hl
            have hE : Ext w9 w10 := hG
            have hS := hE.size
            have q47 : f 1 = .bool true := tellV hp 0 1 rfl rfl (fun h => by cases h)
            have q52 : f 6 = .bool true := tellV hp 1 6 rfl rfl (fun h => by cases h)
            simp only [OpGoal]
            go_simp
            exact ⟨_, rfl, Ext.refl _, rfl⟩
          case o8 =>
            intro f w10 hG hp hl
            have hE : Ext w9 w10 := hG
            have hS := hE.size
            have q53 : f 7 = .bool true := tellV hp 0 7 rfl rfl (fun h => by cases h)
            simp only [OpGoal]
            go_simp
            exact ⟨_, rfl, Ext.refl _, rfl⟩
          case o9 =>
            intro f w10 hG hp hl
            have hE : Ext w9 w10 := hG
            have hS := hE.size
            have qg : f 8 = .bool true := tellV hp 0 8 rfl rfl (fun h => by cases h)
            change OpGoal _ _ _ f w10 Ext _
            refine og_guard (j := 8) (want := true) rfl qg ?_
            change OpGoal _ _ _ f w10 Ext _
            exact og_load (P := Try.prog) _ _ w4.heap.size _ _ _ rfl rfl rfl (D9.ext hE) Try.underlying28 rfl (by kernel_rfl) rfl
          case o10 =>
            intro f w10 hG hp hl
            have hE : Ext w9 w10 := hG
            have hS := hE.size
            have qg : f 8 = .bool true := tellV hp 0 8 rfl rfl (fun h => by cases h)
            change OpGoal _ _ _ f w10 Ext _
            refine og_guard (j := 8) (want := true) rfl qg ?_
            change OpGoal _ _ _ f w10 Ext _
            exact og_load (P := Try.prog) _ _ w.heap.size _ _ _ rfl rfl rfl (C9.ext hE) Try.underlying28 rfl (by kernel_rfl) rfl
          case o11 =>
            intro f w10 hG hp hl
            have hE : Ext w9 w10 := hG
            have hS := hE.size
            have q55 : f 9 = .agg #[.bool b, .slice ad4 l4 cap4, .slice bd4 m4 dap4] := tellV hp 0 9 rfl rfl (fun h => by cases h)
            have q56 : f 10 = .agg #[.bool b, .slice ad n1 cap, .slice ad2 n2 cap2] := tellV hp 1 10 rfl rfl (fun h => by cases h)
            have qg : f 8 = .bool true := tellV hp 2 8 rfl rfl (fun h => by cases h)
            change OpGoal _ _ _ f w10 Ext _
            refine og_guard (j := 8) (want := true) rfl qg ?_
            change OpGoal _ _ _ f w10 Ext _
            refine og_call (P := Try.prog) _ _ _ #[f 9, f 10] Try.func16 (by kernel_rfl) (by kernel_rfl) rfl rfl (by kernel_rfl) ?_
            rw [q55, q56]
            refine (rqsame3_calls _ _ b b xs ys xs ys _ (Q4c.ext hE).raw (Hv.out.ext (E9.trans hE))).mono ?_
            rintro e w' ⟨rfl, h2⟩
            exact ⟨_, rfl, h2, congrArg Value.bool (decide_eq_true ⟨⟨rfl, rfl⟩, rfl⟩)⟩
          case o12 =>
            intro f w10 hG hp hl
            have hE : Ext w9 w10 := hG
            have hS := hE.size
            have q54 : f 8 = .bool true := tellV hp 0 8 rfl rfl (fun h => by cases h)
            have q57 : f 11 = .bool true := tellV hp 1 11 rfl rfl (fun h => by cases h)
            simp only [OpGoal]
            go_simp
            exact ⟨_, rfl, Ext.refl _, rfl⟩
          case o13 =>
            intro f w10 hG hp hl
            have hE : Ext w9 w10 := hG
            have hS := hE.size
            have q58 : f 12 = .bool true := tellV hp 0 12 rfl rfl (fun h => by cases h)
            simp only [OpGoal]
            go_simp
            exact ⟨_, rfl, Ext.refl _, rfl⟩
        · intro f w10 hG hp
          have hE : Ext w9 w10 := ChgS.nil hG
          have q2 : f 13 = .bool true := endV hp 13 (by decide) rfl (fun h => by cases h)
          try simp only [q2]
          clear hp
          go_wp2
          go_ret
          exact ⟨rfl, E9.trans hE⟩
end Go.Proofs.Ytnefipinicfegaa
