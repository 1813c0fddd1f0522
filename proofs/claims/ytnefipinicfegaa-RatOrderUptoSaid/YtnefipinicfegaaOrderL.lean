/-
  The law RatOrder returns true, whatever its fractions are (of at most 1048576 words).
-/
import Derived.Test.YtnefipinicfegaaLawT
namespace Go.Proofs.Ytnefipinicfegaa
open Go.RowKit
set_option linter.unusedVariables false
set_option linter.unusedSimpArgs false

set_option maxRecDepth 100000 in
set_option maxHeartbeats 4000000 in
theorem ratOrder_calls (v u t : Value) (b1 b2 b3 : Bool) (xs ys xs2 ys2 xs3 ys3 : List Nat) (w : World) (hv : RawQ w v b1 xs ys) (hu : RawQ w u b2 xs2 ys2) (ht : RawQ w t b3 xs3 ys3) (dx : Dig W xs) (dy : Dig W ys) (dx2 : Dig W xs2) (dy2 : Dig W ys2) (dx3 : Dig W xs3) (dy3 : Dig W ys3)
    (h1 : xs.length ≤ 1048576) (h2 : ys.length ≤ 1048576) (h3 : xs2.length ≤ 1048576) (h4 : ys2.length ≤ 1048576) (h5 : xs3.length ≤ 1048576) (h6 : ys3.length ≤ 1048576) :
    Calls Try.prog 7 #[v, u, t] w fun e w' => e = .returned (.bool true) ∧ Ext w w' := by
  have Ha := Lib.hid (hv.isK dx dy h1 h2)
  have Hb := Lib.hid (hu.isK dx2 dy2 h3 h4)
  have Hc := Lib.hid (ht.isK dx3 dy3 h5 h6)
  obtain ⟨ad, n1, cap, ad2, n2, cap2, -, -, rfl⟩ := hv.opn2
  obtain ⟨bd, n3, dap, bd2, n4, dap2, -, -, rfl⟩ := hu.opn2
  obtain ⟨cd, n5, eap, cd2, n6, eap2, -, -, rfl⟩ := ht.opn2
  obtain ⟨x, hx⟩ : ∃ x, x = rawR b1 xs ys := ⟨_, rfl⟩
  obtain ⟨y, hy⟩ : ∃ y, y = rawR b2 xs2 ys2 := ⟨_, rfl⟩
  obtain ⟨z, hz⟩ : ∃ z, z = rawR b3 xs3 ys3 := ⟨_, rfl⟩
  rw [← hx] at Ha
  rw [← hy] at Hb
  rw [← hz] at Hc
  clear hv hu ht hx hy hz h1 h2 h3 h4 h5 h6
  have sx := Ha.out.sz
  have sy := Hb.out.sz
  have sz_ := Hc.out.sz
  have lim : (8388608 : Nat) ≤ LIM := by rw [LIM_eq]; omega
  have hp := cmpR_bounds x y
  have hsw := cmpR_swap x y
  have hlo := mean_lo x y
  have hhi := mean_hi x y
  have hsQ := szQ_add sx sy
  have htr : cmpR x y ≤ 0 → cmpR y z ≤ 0 → ¬ 0 < cmpR x z := by
    intro a c
    have a' := cmpR_le.1 a
    have c' := cmpR_le.1 c
    have := cmpR_le.2 (Rat.le_trans a' c')
    omega
  obtain ⟨h, hh⟩ : ∃ h, h = Rat.divInt 1 2 := ⟨_, rfl⟩
  rw [← hh] at hlo hhi
  have hhQ : szQ h ≤ 1 := by rw [hh]; exact Nat.le_trans (szQ_divInt 1 2 (by omega)) (by decide)
  have Hh := Lib.hid hh
  clear hh
  have hmQ := szQ_mul hhQ hsQ
  obtain ⟨p, hp0⟩ : ∃ p, p = cmpR x y := ⟨_, rfl⟩
  obtain ⟨q, hq0⟩ : ∃ q, q = cmpR y z := ⟨_, rfl⟩
  obtain ⟨r, hr0⟩ : ∃ r, r = cmpR x z := ⟨_, rfl⟩
  rw [← hp0] at hp hsw hlo hhi htr
  rw [← hq0, ← hr0] at htr
  obtain ⟨hp1, hp2⟩ := hp
  have hwp : IntKind.i64.wrap p = p := by simp (disch := omega) only [IntWalk.i64_in]
  have Hp := Lib.hid hp0.symm
  have Hq := Lib.hid hq0.symm
  have Hr := Lib.hid hr0.symm
  have Hsw := Lib.hid hsw
  have Hlo := Lib.hid hlo
  have Hhi := Lib.hid hhi
  have Htr := Lib.hid htr
  clear hp0 hq0 hr0 hsw hlo hhi htr
  go_enter Try.func7, Try.ntmps7
  obtain ⟨w1, hw1, e1, b1', b2', b3', s1⟩ := alloc3 w #[.bool b1, .slice ad n1 cap, .slice ad2 n2 cap2] #[.bool b2, .slice bd n3 dap, .slice bd2 n4 dap2] #[.bool b3, .slice cd n5 eap, .slice cd2 n6 eap2] 28 28 28
  go_wp2_with fail
  rw [← hw1]
  refine (speaks_calls _).mono ?_
  rintro e w2 ⟨rfl, e2⟩
  have B1 := b1'.ext e2
  have B2 := b2'.ext e2
  have B3 := b3'.ext e2
  have E := e1.trans e2
  have Rx := Ha.out.ext E
  have Ry := Hb.out.ext E
  have Rz := Hc.out.ext E
  have hx0 := B1.cell 0
  have hx1 := B1.cell 1
  have hx2 := B1.cell 2
  have hy0 := B2.cell 0
  have hy1 := B2.cell 1
  have hy2 := B2.cell 2
  have hz0 := B3.cell 0
  have hz1 := B3.cell 1
  have hz2 := B3.cell 2
  go_wp2_with fail
  refine (rcmp_calls _ _ x y 1048576 1048576 _ Rx Ry (by omega)).mono ?_
  rw [Hp.out]
  rintro e w3 ⟨rfl, e3⟩
  clear hx0 hx1 hx2 hy0 hy1 hy2 hz0 hz1 hz2
  by_cases a1 : p ≤ 0
  · have C2 := B2.ext e3
    have C3 := B3.ext e3
    have hy0 := C2.cell 0
    have hy1 := C2.cell 1
    have hy2 := C2.cell 2
    have hz0 := C3.cell 0
    have hz1 := C3.cell 1
    have hz2 := C3.cell 2
    go_wp2_with fail
    refine (rcmp_calls _ _ y z 1048576 1048576 _ (Ry.ext e3) (Rz.ext e3) (by omega)).mono ?_
    rw [Hq.out]
    rintro e w4 ⟨rfl, e4⟩
    clear hy0 hy1 hy2 hz0 hz1 hz2 C2 C3
    by_cases a2 : q ≤ 0
    · have a3 := Htr.out a1 a2
      have C1 := B1.ext (e3.trans e4)
      have C3 := B3.ext (e3.trans e4)
      have hx0 := C1.cell 0
      have hx1 := C1.cell 1
      have hx2 := C1.cell 2
      have hz0 := C3.cell 0
      have hz1 := C3.cell 1
      have hz2 := C3.cell 2
      go_wp2_with fail
      refine (rcmp_calls _ _ x z 1048576 1048576 _ (Rx.ext (e3.trans e4)) (Rz.ext (e3.trans e4)) (by omega)).mono ?_
      rw [Hr.out]
      rintro e w5 ⟨rfl, e5⟩
      clear hx0 hx1 hx2 hz0 hz1 hz2 C1 C3
      have EA := (e3.trans e4).trans e5
      have G1 := B1.ext EA
      have G2 := B2.ext EA
      have G3 := B3.ext EA
      have Sx := Rx.ext EA
      have Sy := Ry.ext EA
      have EB := E.trans EA
      clear B1 B2 B3 Rx Ry Rz
      go_wp2_with fail
      refine (rof_calls 1 2 _ (by omega) (by omega) (by omega) (by omega) (by omega)).mono ?_
      rw [← Hh.out]
      rintro e wb ⟨vh, rfl, qh, eb⟩
      obtain ⟨bh, hd1, hl, hcp, hd2, hm, hdp, rfl, qh⟩ := qh.opn
      obtain ⟨wc, hwc, ec, bhx, sc⟩ := alloc1 wb #[.bool bh, .slice hd1 hl hcp, .slice hd2 hm hdp] 28
      have F := eb.trans ec
      have K1 := G1.ext F
      have K2 := G2.ext F
      have Tx := Sx.ext F
      have Ty := Sy.ext F
      have Qh := qh.ext ec
      have Th := Qh.isR (k := 1) hhQ (by omega)
      have EC := EB.trans F
      go_wp2_with fail
      rw [← hwc]
      refine wp_region_als [⟨5, 28, 3, #[.bool false, .slice none 0 0, .slice none 0 0]⟩] [⟨6, ⟨5, 28, 3, #[.bool false, .slice none 0 0, .slice none 0 0]⟩, PA.frQ (h * (x + y))⟩] [PA.val (.agg #[.bool bh, .slice hd1 hl hcp, .slice hd2 hm hdp]), PA.val (.agg #[.bool b1, .slice ad n1 cap, .slice ad2 n2 cap2]), PA.val (.agg #[.bool b2, .slice bd n3 dap, .slice bd2 n4 dap2]), PA.frQ (x + y), PA.frQ (h * (x + y)), PA.any, PA.any]
        (by kernel_rfl) (by kernel_rfl) (fun f => (by simp only [fillR, fillL, List.setIfInBounds_toArray, List.set_cons_succ, List.set_cons_zero, Nat.reduceAdd]; rfl)) ?_ ?_ ?_ ?_ ?_
      · intro x hx; simp only [List.mem_cons, List.not_mem_nil, or_false] at hx; rcases hx with rfl
        · exact ⟨rfl, rfl, by decide, by decide, rfl, noInt3 _ _ _ _ _ _ _⟩
      · intro x hx; simp only [List.mem_cons, List.not_mem_nil, or_false] at hx; rcases hx with rfl <;> exact ⟨rfl, rfl, by simp⟩
      · intro x hx y hy h; simp only [List.mem_cons, List.not_mem_nil, or_false] at hx hy; rcases hx with rfl <;> rcases hy with rfl
        · exact absurd rfl h
      · refine ⟨?o0, ?o1, ?o2, ?o3, ?o4, ?o5, ?o6, trivial⟩
        case o0 =>
          intro f wd hE hp
          have hS := hE.size
          change OpGoal _ _ _ f wd Ext _
          exact og_load (P := Try.prog) _ _ wb.heap.size _ _ _ rfl rfl rfl (bhx.ext hE) Try.underlying28 rfl (by kernel_rfl) rfl
        case o1 =>
          intro f wd hE hp
          have hS := hE.size
          change OpGoal _ _ _ f wd Ext _
          exact og_load (P := Try.prog) _ _ w.heap.size _ _ _ rfl rfl rfl (K1.ext hE) Try.underlying28 rfl (by kernel_rfl) rfl
        case o2 =>
          intro f wd hE hp
          have hS := hE.size
          change OpGoal _ _ _ f wd Ext _
          exact og_load (P := Try.prog) _ _ (w.heap.size + 1) _ _ _ rfl rfl rfl (K2.ext hE) Try.underlying28 rfl (by kernel_rfl) rfl
        case o3 =>
          intro f wd hE hp
          have hS := hE.size
          have q33 : f 1 = .agg #[.bool b1, .slice ad n1 cap, .slice ad2 n2 cap2] := tellA hp 0 1 rfl rfl rfl
          have q34 : f 2 = .agg #[.bool b2, .slice bd n3 dap, .slice bd2 n4 dap2] := tellA hp 1 2 rfl rfl rfl
          change OpGoal _ _ _ f wd Ext _
          refine og_call (P := Try.prog) _ _ _ #[f 1, f 2] Try.func43 (by kernel_rfl) (by kernel_rfl) rfl rfl (by kernel_rfl) ?_
          rw [q33, q34]
          refine (radd_calls _ _ x y 1048576 1048576 _ (Tx.ext hE) (Ty.ext hE) (by omega)).mono ?_
          rintro e w' ⟨v', rfl, h1, _, h2⟩
          exact ⟨v', rfl, h2, h1.mono hS⟩
        case o4 =>
          intro f wd hE hp
          have hS := hE.size
          have q32 : f 0 = .agg #[.bool bh, .slice hd1 hl hcp, .slice hd2 hm hdp] := tellA hp 0 0 rfl rfl rfl
          have q35 := tellA hp 1 3 rfl rfl rfl
          change OpGoal _ _ _ f wd Ext _
          refine og_call (P := Try.prog) _ _ _ #[f 0, f 3] Try.func42 (by kernel_rfl) (by kernel_rfl) rfl rfl (by kernel_rfl) ?_
          rw [q32]
          refine (rmul_calls _ _ h (x + y) 1 2097153 _ (Th.ext hE) (q35.isR (by omega) (by omega)) (by omega)).mono ?_
          rintro e w' ⟨v', rfl, h1, _, h2⟩
          exact ⟨v', rfl, h2, h1.mono hS⟩
        case o5 =>
          intro f wd hE hp
          have hS := hE.size
          change OpGoal _ _ _ f wd (fun a b => b = a.alloc _) _
          exact og_alloc (P := Try.prog) _ _ (.agg #[.bool false, .slice none 0 0, .slice none 0 0]) rfl rfl (by kernel_rfl) rfl
        case o6 =>
          intro f wd hE hp
          have hS := hE.size
          have q36 := tellA hp 1 4 rfl rfl rfl
          intro g old hfa hSg hbx hsz hno
          change OpGoal _ _ _ f wd (Chg g) _
          obtain ⟨cells, hv, hcs, hc1, hcn⟩ := FrQ.parts q36
          exact og_storeA (P := Try.prog) (PA.frQ (h * (x + y))) 3 _ _ _ g _ old cells rfl rfl hfa hv hbx (by rw [hcs]; kernel_rfl) hsz hcs hc1 hSg (show 28 ≠ 79 by decide) (show 28 ≠ 3 by decide) hno hcn (hv ▸ q36)
      · intro f wd hE hp hal
        obtain ⟨ga9, ca9, fa9, la9, ba9, na9, pa9⟩ := hal ⟨5, 28, 3, #[.bool false, .slice none 0 0, .slice none 0 0]⟩ (by simp) (by decide)
        dsimp only at fa9 la9 ba9 na9
        have za9 := pa9 ⟨6, ⟨5, 28, 3, #[.bool false, .slice none 0 0, .slice none 0 0]⟩, PA.frQ (h * (x + y))⟩ (by simp) (by show 6 < 7; decide) rfl rfl
        clear pa9
        clear hp hal
        obtain ⟨c9, ad9, l9, cap9, bd9, m9, dap9, hv9, q9⟩ := FrQ.opn za9
        cases hv9
        have Tm := q9.isR (k := 2097154) (by omega) (by omega)
        have M1 := K1.ext hE
        have M2 := K2.ext hE
        have Vx := Tx.ext hE
        have Vy := Ty.ext hE
        have ED := EC.trans hE
        go_wp2_with fail
        refine wp_region_puts [] [PP.val (.agg #[.bool b1, .slice ad n1 cap, .slice ad2 n2 cap2]), PP.val (.agg #[.bool b2, .slice bd n3 dap, .slice bd2 n4 dap2]), PP.val (.int .i64 p), PP.val (.agg #[.bool b2, .slice bd n3 dap, .slice bd2 n4 dap2]), PP.val (.agg #[.bool b1, .slice ad n1 cap, .slice ad2 n2 cap2]), PP.val (.int .i64 (-p)), PP.val (.int .i64 p), PP.val (.bool true), PP.val (.bool true), PP.val (.agg #[.bool b1, .slice ad n1 cap, .slice ad2 n2 cap2]), PP.val (.agg #[.bool c9, .slice ad9 l9 cap9, .slice bd9 m9 dap9]), PP.val (.int .i64 p), PP.val (.agg #[.bool b1, .slice ad n1 cap, .slice ad2 n2 cap2]), PP.val (.agg #[.bool b2, .slice bd n3 dap, .slice bd2 n4 dap2]), PP.val (.int .i64 p), PP.val (.bool true), PP.val (.bool true), PP.val (.bool true), PP.val (.agg #[.bool c9, .slice ad9 l9 cap9, .slice bd9 m9 dap9]), PP.val (.agg #[.bool b2, .slice bd n3 dap, .slice bd2 n4 dap2]), PP.val (.int .i64 p), PP.val (.agg #[.bool b1, .slice ad n1 cap, .slice ad2 n2 cap2]), PP.val (.agg #[.bool b2, .slice bd n3 dap, .slice bd2 n4 dap2]), PP.val (.int .i64 p), PP.val (.bool true), PP.val (.bool true), PP.val (.bool true)] [] [0, 1, 2, 3, 4, 5, 6, 7, 8, 9, 10, 11, 12, 13, 14, 15, 16, 17, 18, 19, 20, 21, 22, 23, 24, 25, 26]
          (by kernel_rfl) (by kernel_rfl) (fun f => (by simp only [fillR, fillL, List.setIfInBounds_toArray, List.set_cons_succ, List.set_cons_zero, Nat.reduceAdd]; rfl)) ?_ ?_ ?_ ?_ ?_
        · intro x hx; cases hx
        · intro x hx; cases hx
        · intro x hx; cases hx
        · refine ⟨?o0, ?o1, ?o2, ?o3, ?o4, ?o5, ?o6, ?o7, ?o8, ?o9, ?o10, ?o11, ?o12, ?o13, ?o14, ?o15, ?o16, ?o17, ?o18, ?o19, ?o20, ?o21, ?o22, ?o23, ?o24, ?o25, ?o26, trivial⟩
          case o0 =>
            intro f we hG hp hl
            have hE : Ext wd we := hG
            have hS := hE.size
            change OpGoal _ _ _ f we Ext _
            exact og_load (P := Try.prog) _ _ w.heap.size _ _ _ rfl rfl rfl (M1.ext hE) Try.underlying28 rfl (by kernel_rfl) rfl
          case o1 =>
            intro f we hG hp hl
            have hE : Ext wd we := hG
            have hS := hE.size
            change OpGoal _ _ _ f we Ext _
            exact og_load (P := Try.prog) _ _ (w.heap.size + 1) _ _ _ rfl rfl rfl (M2.ext hE) Try.underlying28 rfl (by kernel_rfl) rfl
          case o2 =>
            intro f we hG hp hl
            have hE : Ext wd we := hG
            have hS := hE.size
            have q37 : f 0 = .agg #[.bool b1, .slice ad n1 cap, .slice ad2 n2 cap2] := tellV hp 0 0 rfl rfl (fun h => by cases h)
            have q38 : f 1 = .agg #[.bool b2, .slice bd n3 dap, .slice bd2 n4 dap2] := tellV hp 1 1 rfl rfl (fun h => by cases h)
            change OpGoal _ _ _ f we Ext _
            refine og_call (P := Try.prog) _ _ _ #[f 0, f 1] Try.func41 (by kernel_rfl) (by kernel_rfl) rfl rfl (by kernel_rfl) ?_
            rw [q37, q38]
            refine (rcmp_calls _ _ x y 1048576 1048576 _ (Vx.ext hE) (Vy.ext hE) (by omega)).mono ?_
            rintro e w' ⟨rfl, h2⟩
            exact ⟨_, rfl, h2, congrArg (Value.int .i64) Hp.out⟩
          case o3 =>
            intro f we hG hp hl
            have hE : Ext wd we := hG
            have hS := hE.size
            change OpGoal _ _ _ f we Ext _
            exact og_load (P := Try.prog) _ _ (w.heap.size + 1) _ _ _ rfl rfl rfl (M2.ext hE) Try.underlying28 rfl (by kernel_rfl) rfl
          case o4 =>
            intro f we hG hp hl
            have hE : Ext wd we := hG
            have hS := hE.size
            change OpGoal _ _ _ f we Ext _
            exact og_load (P := Try.prog) _ _ w.heap.size _ _ _ rfl rfl rfl (M1.ext hE) Try.underlying28 rfl (by kernel_rfl) rfl
          case o5 =>
            intro f we hG hp hl
            have hE : Ext wd we := hG
            have hS := hE.size
            have q40 : f 3 = .agg #[.bool b2, .slice bd n3 dap, .slice bd2 n4 dap2] := tellV hp 0 3 rfl rfl (fun h => by cases h)
            have q41 : f 4 = .agg #[.bool b1, .slice ad n1 cap, .slice ad2 n2 cap2] := tellV hp 1 4 rfl rfl (fun h => by cases h)
            change OpGoal _ _ _ f we Ext _
            refine og_call (P := Try.prog) _ _ _ #[f 3, f 4] Try.func41 (by kernel_rfl) (by kernel_rfl) rfl rfl (by kernel_rfl) ?_
            rw [q40, q41]
            refine (rcmp_calls _ _ y x 1048576 1048576 _ (Vy.ext hE) (Vx.ext hE) (by omega)).mono ?_
            rintro e w' ⟨rfl, h2⟩
            exact ⟨_, rfl, h2, congrArg (Value.int .i64) Hsw.out⟩
          case o6 =>
            intro f we hG hp hl
            have hE : Ext wd we := hG
            have hS := hE.size
            have q42 : f 5 = .int .i64 (-p) := tellV hp 0 5 rfl rfl (fun h => by cases h)
            simp only [OpGoal]
            go_simp
            exact ⟨_, rfl, Ext.refl _, rfl⟩
          case o7 =>
            intro f we hG hp hl
            have hE : Ext wd we := hG
            have hS := hE.size
            have q39 : f 2 = .int .i64 p := tellV hp 0 2 rfl rfl (fun h => by cases h)
            have q43 : f 6 = .int .i64 p := tellV hp 1 6 rfl rfl (fun h => by cases h)
            simp only [OpGoal]
            go_simp
            exact ⟨_, rfl, Ext.refl _, rfl⟩
          case o8 =>
            intro f we hG hp hl
            have hE : Ext wd we := hG
            have hS := hE.size
            have q44 : f 7 = .bool true := tellV hp 0 7 rfl rfl (fun h => by cases h)
            simp only [OpGoal]
            go_simp
            exact ⟨_, rfl, Ext.refl _, rfl⟩
          case o9 =>
            intro f we hG hp hl
            have hE : Ext wd we := hG
            have hS := hE.size
            have qg : f 8 = .bool true := tellV hp 0 8 rfl rfl (fun h => by cases h)
            change OpGoal _ _ _ f we Ext _
            refine og_guard (j := 8) (want := true) rfl qg ?_
            change OpGoal _ _ _ f we Ext _
            exact og_load (P := Try.prog) _ _ w.heap.size _ _ _ rfl rfl rfl (M1.ext hE) Try.underlying28 rfl (by kernel_rfl) rfl
          case o10 =>
            intro f we hG hp hl
            have hE : Ext wd we := hG
            have hS := hE.size
            have qg : f 8 = .bool true := tellV hp 0 8 rfl rfl (fun h => by cases h)
            change OpGoal _ _ _ f we Ext _
            refine og_guard (j := 8) (want := true) rfl qg ?_
            change OpGoal _ _ _ f we Ext _
            exact og_load (P := Try.prog) _ _ ga9 _ _ _ rfl rfl rfl (ba9.ext hE) Try.underlying28 rfl (by kernel_rfl) rfl
          case o11 =>
            intro f we hG hp hl
            have hE : Ext wd we := hG
            have hS := hE.size
            have q46 : f 9 = .agg #[.bool b1, .slice ad n1 cap, .slice ad2 n2 cap2] := tellV hp 0 9 rfl rfl (fun h => by cases h)
            have q47 : f 10 = .agg #[.bool c9, .slice ad9 l9 cap9, .slice bd9 m9 dap9] := tellV hp 1 10 rfl rfl (fun h => by cases h)
            have qg : f 8 = .bool true := tellV hp 2 8 rfl rfl (fun h => by cases h)
            change OpGoal _ _ _ f we Ext _
            refine og_guard (j := 8) (want := true) rfl qg ?_
            change OpGoal _ _ _ f we Ext _
            refine og_call (P := Try.prog) _ _ _ #[f 9, f 10] Try.func41 (by kernel_rfl) (by kernel_rfl) rfl rfl (by kernel_rfl) ?_
            rw [q46, q47]
            refine (rcmp_calls _ _ x (h * (x + y)) 1048576 2097154 _ (Vx.ext hE) (Tm.ext hE) (by omega)).mono ?_
            rintro e w' ⟨rfl, h2⟩
            exact ⟨_, rfl, h2, congrArg (Value.int .i64) Hlo.out⟩
          case o12 =>
            intro f we hG hp hl
            have hE : Ext wd we := hG
            have hS := hE.size
            have qg : f 8 = .bool true := tellV hp 0 8 rfl rfl (fun h => by cases h)
            change OpGoal _ _ _ f we Ext _
            refine og_guard (j := 8) (want := true) rfl qg ?_
            change OpGoal _ _ _ f we Ext _
            exact og_load (P := Try.prog) _ _ w.heap.size _ _ _ rfl rfl rfl (M1.ext hE) Try.underlying28 rfl (by kernel_rfl) rfl
          case o13 =>
            intro f we hG hp hl
            have hE : Ext wd we := hG
            have hS := hE.size
            have qg : f 8 = .bool true := tellV hp 0 8 rfl rfl (fun h => by cases h)
            change OpGoal _ _ _ f we Ext _
            refine og_guard (j := 8) (want := true) rfl qg ?_
            change OpGoal _ _ _ f we Ext _
            exact og_load (P := Try.prog) _ _ (w.heap.size + 1) _ _ _ rfl rfl rfl (M2.ext hE) Try.underlying28 rfl (by kernel_rfl) rfl
          case o14 =>
            intro f we hG hp hl
            have hE : Ext wd we := hG
            have hS := hE.size
            have q49 : f 12 = .agg #[.bool b1, .slice ad n1 cap, .slice ad2 n2 cap2] := tellV hp 0 12 rfl rfl (fun h => by cases h)
            have q50 : f 13 = .agg #[.bool b2, .slice bd n3 dap, .slice bd2 n4 dap2] := tellV hp 1 13 rfl rfl (fun h => by cases h)
            have qg : f 8 = .bool true := tellV hp 3 8 rfl rfl (fun h => by cases h)
            change OpGoal _ _ _ f we Ext _
            refine og_guard (j := 8) (want := true) rfl qg ?_
            change OpGoal _ _ _ f we Ext _
            refine og_call (P := Try.prog) _ _ _ #[f 12, f 13] Try.func41 (by kernel_rfl) (by kernel_rfl) rfl rfl (by kernel_rfl) ?_
            rw [q49, q50]
            refine (rcmp_calls _ _ x y 1048576 1048576 _ (Vx.ext hE) (Vy.ext hE) (by omega)).mono ?_
            rintro e w' ⟨rfl, h2⟩
            exact ⟨_, rfl, h2, congrArg (Value.int .i64) Hp.out⟩
          case o15 =>
            intro f we hG hp hl
            have hE : Ext wd we := hG
            have hS := hE.size
            have q48 : f 11 = .int .i64 p := tellV hp 0 11 rfl rfl (fun h => by cases h)
            have q51 : f 14 = .int .i64 p := tellV hp 1 14 rfl rfl (fun h => by cases h)
            have qg : f 8 = .bool true := tellV hp 2 8 rfl rfl (fun h => by cases h)
            change OpGoal _ _ _ f we Ext _
            refine og_guard (j := 8) (want := true) rfl qg ?_
            simp only [OpGoal]
            go_simp
            exact ⟨_, rfl, Ext.refl _, rfl⟩
          case o16 =>
            intro f we hG hp hl
            have hE : Ext wd we := hG
            have hS := hE.size
            have q45 : f 8 = .bool true := tellV hp 0 8 rfl rfl (fun h => by cases h)
            have q52 : f 15 = .bool true := tellV hp 1 15 rfl rfl (fun h => by cases h)
            simp only [OpGoal]
            go_simp
            exact ⟨_, rfl, Ext.refl _, rfl⟩
          case o17 =>
            intro f we hG hp hl
            have hE : Ext wd we := hG
            have hS := hE.size
            have q53 : f 16 = .bool true := tellV hp 0 16 rfl rfl (fun h => by cases h)
            simp only [OpGoal]
            go_simp
            exact ⟨_, rfl, Ext.refl _, rfl⟩
          case o18 =>
            intro f we hG hp hl
            have hE : Ext wd we := hG
            have hS := hE.size
            have qg : f 17 = .bool true := tellV hp 0 17 rfl rfl (fun h => by cases h)
            change OpGoal _ _ _ f we Ext _
            refine og_guard (j := 17) (want := true) rfl qg ?_
            change OpGoal _ _ _ f we Ext _
            exact og_load (P := Try.prog) _ _ ga9 _ _ _ rfl rfl rfl (ba9.ext hE) Try.underlying28 rfl (by kernel_rfl) rfl
          case o19 =>
            intro f we hG hp hl
            have hE : Ext wd we := hG
            have hS := hE.size
            have qg : f 17 = .bool true := tellV hp 0 17 rfl rfl (fun h => by cases h)
            change OpGoal _ _ _ f we Ext _
            refine og_guard (j := 17) (want := true) rfl qg ?_
            change OpGoal _ _ _ f we Ext _
            exact og_load (P := Try.prog) _ _ (w.heap.size + 1) _ _ _ rfl rfl rfl (M2.ext hE) Try.underlying28 rfl (by kernel_rfl) rfl
          case o20 =>
            intro f we hG hp hl
            have hE : Ext wd we := hG
            have hS := hE.size
            have q55 : f 18 = .agg #[.bool c9, .slice ad9 l9 cap9, .slice bd9 m9 dap9] := tellV hp 0 18 rfl rfl (fun h => by cases h)
            have q56 : f 19 = .agg #[.bool b2, .slice bd n3 dap, .slice bd2 n4 dap2] := tellV hp 1 19 rfl rfl (fun h => by cases h)
            have qg : f 17 = .bool true := tellV hp 2 17 rfl rfl (fun h => by cases h)
            change OpGoal _ _ _ f we Ext _
            refine og_guard (j := 17) (want := true) rfl qg ?_
            change OpGoal _ _ _ f we Ext _
            refine og_call (P := Try.prog) _ _ _ #[f 18, f 19] Try.func41 (by kernel_rfl) (by kernel_rfl) rfl rfl (by kernel_rfl) ?_
            rw [q55, q56]
            refine (rcmp_calls _ _ (h * (x + y)) y 2097154 1048576 _ (Tm.ext hE) (Vy.ext hE) (by omega)).mono ?_
            rintro e w' ⟨rfl, h2⟩
            exact ⟨_, rfl, h2, congrArg (Value.int .i64) Hhi.out⟩
          case o21 =>
            intro f we hG hp hl
            have hE : Ext wd we := hG
            have hS := hE.size
            have qg : f 17 = .bool true := tellV hp 0 17 rfl rfl (fun h => by cases h)
            change OpGoal _ _ _ f we Ext _
            refine og_guard (j := 17) (want := true) rfl qg ?_
            change OpGoal _ _ _ f we Ext _
            exact og_load (P := Try.prog) _ _ w.heap.size _ _ _ rfl rfl rfl (M1.ext hE) Try.underlying28 rfl (by kernel_rfl) rfl
          case o22 =>
            intro f we hG hp hl
            have hE : Ext wd we := hG
            have hS := hE.size
            have qg : f 17 = .bool true := tellV hp 0 17 rfl rfl (fun h => by cases h)
            change OpGoal _ _ _ f we Ext _
            refine og_guard (j := 17) (want := true) rfl qg ?_
            change OpGoal _ _ _ f we Ext _
            exact og_load (P := Try.prog) _ _ (w.heap.size + 1) _ _ _ rfl rfl rfl (M2.ext hE) Try.underlying28 rfl (by kernel_rfl) rfl
          case o23 =>
            intro f we hG hp hl
            have hE : Ext wd we := hG
            have hS := hE.size
            have q58 : f 21 = .agg #[.bool b1, .slice ad n1 cap, .slice ad2 n2 cap2] := tellV hp 0 21 rfl rfl (fun h => by cases h)
            have q59 : f 22 = .agg #[.bool b2, .slice bd n3 dap, .slice bd2 n4 dap2] := tellV hp 1 22 rfl rfl (fun h => by cases h)
            have qg : f 17 = .bool true := tellV hp 3 17 rfl rfl (fun h => by cases h)
            change OpGoal _ _ _ f we Ext _
            refine og_guard (j := 17) (want := true) rfl qg ?_
            change OpGoal _ _ _ f we Ext _
            refine og_call (P := Try.prog) _ _ _ #[f 21, f 22] Try.func41 (by kernel_rfl) (by kernel_rfl) rfl rfl (by kernel_rfl) ?_
            rw [q58, q59]
            refine (rcmp_calls _ _ x y 1048576 1048576 _ (Vx.ext hE) (Vy.ext hE) (by omega)).mono ?_
            rintro e w' ⟨rfl, h2⟩
            exact ⟨_, rfl, h2, congrArg (Value.int .i64) Hp.out⟩
          case o24 =>
            intro f we hG hp hl
            have hE : Ext wd we := hG
            have hS := hE.size
            have q57 : f 20 = .int .i64 p := tellV hp 0 20 rfl rfl (fun h => by cases h)
            have q60 : f 23 = .int .i64 p := tellV hp 1 23 rfl rfl (fun h => by cases h)
            have qg : f 17 = .bool true := tellV hp 2 17 rfl rfl (fun h => by cases h)
            change OpGoal _ _ _ f we Ext _
            refine og_guard (j := 17) (want := true) rfl qg ?_
            simp only [OpGoal]
            go_simp
            exact ⟨_, rfl, Ext.refl _, rfl⟩
          case o25 =>
            intro f we hG hp hl
            have hE : Ext wd we := hG
            have hS := hE.size
            have q54 : f 17 = .bool true := tellV hp 0 17 rfl rfl (fun h => by cases h)
            have q61 : f 24 = .bool true := tellV hp 1 24 rfl rfl (fun h => by cases h)
            simp only [OpGoal]
            go_simp
            exact ⟨_, rfl, Ext.refl _, rfl⟩
          case o26 =>
            intro f we hG hp hl
            have hE : Ext wd we := hG
            have hS := hE.size
            have q62 : f 25 = .bool true := tellV hp 0 25 rfl rfl (fun h => by cases h)
            simp only [OpGoal]
            go_simp
            exact ⟨_, rfl, Ext.refl _, rfl⟩
        · intro f we hG hp
          have hE : Ext wd we := ChgS.nil hG
          have q6 : f 26 = .bool true := endV hp 26 (by decide) rfl (fun h => by cases h)
          try simp only [q6]
          clear hp
          go_wp2
          go_ret
          exact ⟨rfl, ED.trans hE⟩
    · have a2' : ¬ q ≤ 0 := a2
      have EA := e3.trans e4
      have G1 := B1.ext EA
      have G2 := B2.ext EA
      have G3 := B3.ext EA
      have Sx := Rx.ext EA
      have Sy := Ry.ext EA
      have EB := E.trans EA
      clear B1 B2 B3 Rx Ry Rz
      go_wp2_with fail
      refine (rof_calls 1 2 _ (by omega) (by omega) (by omega) (by omega) (by omega)).mono ?_
      rw [← Hh.out]
      rintro e wb ⟨vh, rfl, qh, eb⟩
      obtain ⟨bh, hd1, hl, hcp, hd2, hm, hdp, rfl, qh⟩ := qh.opn
      obtain ⟨wc, hwc, ec, bhx, sc⟩ := alloc1 wb #[.bool bh, .slice hd1 hl hcp, .slice hd2 hm hdp] 28
      have F := eb.trans ec
      have K1 := G1.ext F
      have K2 := G2.ext F
      have Tx := Sx.ext F
      have Ty := Sy.ext F
      have Qh := qh.ext ec
      have Th := Qh.isR (k := 1) hhQ (by omega)
      have EC := EB.trans F
      go_wp2_with fail
      rw [← hwc]
      refine wp_region_als [⟨5, 28, 3, #[.bool false, .slice none 0 0, .slice none 0 0]⟩] [⟨6, ⟨5, 28, 3, #[.bool false, .slice none 0 0, .slice none 0 0]⟩, PA.frQ (h * (x + y))⟩] [PA.val (.agg #[.bool bh, .slice hd1 hl hcp, .slice hd2 hm hdp]), PA.val (.agg #[.bool b1, .slice ad n1 cap, .slice ad2 n2 cap2]), PA.val (.agg #[.bool b2, .slice bd n3 dap, .slice bd2 n4 dap2]), PA.frQ (x + y), PA.frQ (h * (x + y)), PA.any, PA.any]
        (by kernel_rfl) (by kernel_rfl) (fun f => (by simp only [fillR, fillL, List.setIfInBounds_toArray, List.set_cons_succ, List.set_cons_zero, Nat.reduceAdd]; rfl)) ?_ ?_ ?_ ?_ ?_
      · intro x hx; simp only [List.mem_cons, List.not_mem_nil, or_false] at hx; rcases hx with rfl
        · exact ⟨rfl, rfl, by decide, by decide, rfl, noInt3 _ _ _ _ _ _ _⟩
      · intro x hx; simp only [List.mem_cons, List.not_mem_nil, or_false] at hx; rcases hx with rfl <;> exact ⟨rfl, rfl, by simp⟩
      · intro x hx y hy h; simp only [List.mem_cons, List.not_mem_nil, or_false] at hx hy; rcases hx with rfl <;> rcases hy with rfl
        · exact absurd rfl h
      · refine ⟨?o0, ?o1, ?o2, ?o3, ?o4, ?o5, ?o6, trivial⟩
        case o0 =>
          intro f wd hE hp
          have hS := hE.size
          change OpGoal _ _ _ f wd Ext _
          exact og_load (P := Try.prog) _ _ wb.heap.size _ _ _ rfl rfl rfl (bhx.ext hE) Try.underlying28 rfl (by kernel_rfl) rfl
        case o1 =>
          intro f wd hE hp
          have hS := hE.size
          change OpGoal _ _ _ f wd Ext _
          exact og_load (P := Try.prog) _ _ w.heap.size _ _ _ rfl rfl rfl (K1.ext hE) Try.underlying28 rfl (by kernel_rfl) rfl
        case o2 =>
          intro f wd hE hp
          have hS := hE.size
          change OpGoal _ _ _ f wd Ext _
          exact og_load (P := Try.prog) _ _ (w.heap.size + 1) _ _ _ rfl rfl rfl (K2.ext hE) Try.underlying28 rfl (by kernel_rfl) rfl
        case o3 =>
          intro f wd hE hp
          have hS := hE.size
          have q33 : f 1 = .agg #[.bool b1, .slice ad n1 cap, .slice ad2 n2 cap2] := tellA hp 0 1 rfl rfl rfl
          have q34 : f 2 = .agg #[.bool b2, .slice bd n3 dap, .slice bd2 n4 dap2] := tellA hp 1 2 rfl rfl rfl
          change OpGoal _ _ _ f wd Ext _
          refine og_call (P := Try.prog) _ _ _ #[f 1, f 2] Try.func43 (by kernel_rfl) (by kernel_rfl) rfl rfl (by kernel_rfl) ?_
          rw [q33, q34]
          refine (radd_calls _ _ x y 1048576 1048576 _ (Tx.ext hE) (Ty.ext hE) (by omega)).mono ?_
          rintro e w' ⟨v', rfl, h1, _, h2⟩
          exact ⟨v', rfl, h2, h1.mono hS⟩
        case o4 =>
          intro f wd hE hp
          have hS := hE.size
          have q32 : f 0 = .agg #[.bool bh, .slice hd1 hl hcp, .slice hd2 hm hdp] := tellA hp 0 0 rfl rfl rfl
          have q35 := tellA hp 1 3 rfl rfl rfl
          change OpGoal _ _ _ f wd Ext _
          refine og_call (P := Try.prog) _ _ _ #[f 0, f 3] Try.func42 (by kernel_rfl) (by kernel_rfl) rfl rfl (by kernel_rfl) ?_
          rw [q32]
          refine (rmul_calls _ _ h (x + y) 1 2097153 _ (Th.ext hE) (q35.isR (by omega) (by omega)) (by omega)).mono ?_
          rintro e w' ⟨v', rfl, h1, _, h2⟩
          exact ⟨v', rfl, h2, h1.mono hS⟩
        case o5 =>
          intro f wd hE hp
          have hS := hE.size
          change OpGoal _ _ _ f wd (fun a b => b = a.alloc _) _
          exact og_alloc (P := Try.prog) _ _ (.agg #[.bool false, .slice none 0 0, .slice none 0 0]) rfl rfl (by kernel_rfl) rfl
        case o6 =>
          intro f wd hE hp
          have hS := hE.size
          have q36 := tellA hp 1 4 rfl rfl rfl
          intro g old hfa hSg hbx hsz hno
          change OpGoal _ _ _ f wd (Chg g) _
          obtain ⟨cells, hv, hcs, hc1, hcn⟩ := FrQ.parts q36
          exact og_storeA (P := Try.prog) (PA.frQ (h * (x + y))) 3 _ _ _ g _ old cells rfl rfl hfa hv hbx (by rw [hcs]; kernel_rfl) hsz hcs hc1 hSg (show 28 ≠ 79 by decide) (show 28 ≠ 3 by decide) hno hcn (hv ▸ q36)
      · intro f wd hE hp hal
        obtain ⟨ga9, ca9, fa9, la9, ba9, na9, pa9⟩ := hal ⟨5, 28, 3, #[.bool false, .slice none 0 0, .slice none 0 0]⟩ (by simp) (by decide)
        dsimp only at fa9 la9 ba9 na9
        have za9 := pa9 ⟨6, ⟨5, 28, 3, #[.bool false, .slice none 0 0, .slice none 0 0]⟩, PA.frQ (h * (x + y))⟩ (by simp) (by show 6 < 7; decide) rfl rfl
        clear pa9
        clear hp hal
        obtain ⟨c9, ad9, l9, cap9, bd9, m9, dap9, hv9, q9⟩ := FrQ.opn za9
        cases hv9
        have Tm := q9.isR (k := 2097154) (by omega) (by omega)
        have M1 := K1.ext hE
        have M2 := K2.ext hE
        have Vx := Tx.ext hE
        have Vy := Ty.ext hE
        have ED := EC.trans hE
        go_wp2_with fail
        refine wp_region_puts [] [PP.val (.agg #[.bool b1, .slice ad n1 cap, .slice ad2 n2 cap2]), PP.val (.agg #[.bool b2, .slice bd n3 dap, .slice bd2 n4 dap2]), PP.val (.int .i64 p), PP.val (.agg #[.bool b2, .slice bd n3 dap, .slice bd2 n4 dap2]), PP.val (.agg #[.bool b1, .slice ad n1 cap, .slice ad2 n2 cap2]), PP.val (.int .i64 (-p)), PP.val (.int .i64 p), PP.val (.bool true), PP.val (.bool true), PP.val (.agg #[.bool b1, .slice ad n1 cap, .slice ad2 n2 cap2]), PP.val (.agg #[.bool c9, .slice ad9 l9 cap9, .slice bd9 m9 dap9]), PP.val (.int .i64 p), PP.val (.agg #[.bool b1, .slice ad n1 cap, .slice ad2 n2 cap2]), PP.val (.agg #[.bool b2, .slice bd n3 dap, .slice bd2 n4 dap2]), PP.val (.int .i64 p), PP.val (.bool true), PP.val (.bool true), PP.val (.bool true), PP.val (.agg #[.bool c9, .slice ad9 l9 cap9, .slice bd9 m9 dap9]), PP.val (.agg #[.bool b2, .slice bd n3 dap, .slice bd2 n4 dap2]), PP.val (.int .i64 p), PP.val (.agg #[.bool b1, .slice ad n1 cap, .slice ad2 n2 cap2]), PP.val (.agg #[.bool b2, .slice bd n3 dap, .slice bd2 n4 dap2]), PP.val (.int .i64 p), PP.val (.bool true), PP.val (.bool true), PP.val (.bool true)] [] [0, 1, 2, 3, 4, 5, 6, 7, 8, 9, 10, 11, 12, 13, 14, 15, 16, 17, 18, 19, 20, 21, 22, 23, 24, 25, 26]
          (by kernel_rfl) (by kernel_rfl) (fun f => (by simp only [fillR, fillL, List.setIfInBounds_toArray, List.set_cons_succ, List.set_cons_zero, Nat.reduceAdd]; rfl)) ?_ ?_ ?_ ?_ ?_
        · intro x hx; cases hx
        · intro x hx; cases hx
        · intro x hx; cases hx
        · refine ⟨?o0, ?o1, ?o2, ?o3, ?o4, ?o5, ?o6, ?o7, ?o8, ?o9, ?o10, ?o11, ?o12, ?o13, ?o14, ?o15, ?o16, ?o17, ?o18, ?o19, ?o20, ?o21, ?o22, ?o23, ?o24, ?o25, ?o26, trivial⟩
          case o0 =>
            intro f we hG hp hl
            have hE : Ext wd we := hG
            have hS := hE.size
            change OpGoal _ _ _ f we Ext _
            exact og_load (P := Try.prog) _ _ w.heap.size _ _ _ rfl rfl rfl (M1.ext hE) Try.underlying28 rfl (by kernel_rfl) rfl
          case o1 =>
            intro f we hG hp hl
            have hE : Ext wd we := hG
            have hS := hE.size
            change OpGoal _ _ _ f we Ext _
            exact og_load (P := Try.prog) _ _ (w.heap.size + 1) _ _ _ rfl rfl rfl (M2.ext hE) Try.underlying28 rfl (by kernel_rfl) rfl
          case o2 =>
            intro f we hG hp hl
            have hE : Ext wd we := hG
            have hS := hE.size
            have q37 : f 0 = .agg #[.bool b1, .slice ad n1 cap, .slice ad2 n2 cap2] := tellV hp 0 0 rfl rfl (fun h => by cases h)
            have q38 : f 1 = .agg #[.bool b2, .slice bd n3 dap, .slice bd2 n4 dap2] := tellV hp 1 1 rfl rfl (fun h => by cases h)
            change OpGoal _ _ _ f we Ext _
            refine og_call (P := Try.prog) _ _ _ #[f 0, f 1] Try.func41 (by kernel_rfl) (by kernel_rfl) rfl rfl (by kernel_rfl) ?_
            rw [q37, q38]
            refine (rcmp_calls _ _ x y 1048576 1048576 _ (Vx.ext hE) (Vy.ext hE) (by omega)).mono ?_
            rintro e w' ⟨rfl, h2⟩
            exact ⟨_, rfl, h2, congrArg (Value.int .i64) Hp.out⟩
          case o3 =>
            intro f we hG hp hl
            have hE : Ext wd we := hG
            have hS := hE.size
            change OpGoal _ _ _ f we Ext _
            exact og_load (P := Try.prog) _ _ (w.heap.size + 1) _ _ _ rfl rfl rfl (M2.ext hE) Try.underlying28 rfl (by kernel_rfl) rfl
          case o4 =>
            intro f we hG hp hl
            have hE : Ext wd we := hG
            have hS := hE.size
            change OpGoal _ _ _ f we Ext _
            exact og_load (P := Try.prog) _ _ w.heap.size _ _ _ rfl rfl rfl (M1.ext hE) Try.underlying28 rfl (by kernel_rfl) rfl
          case o5 =>
            intro f we hG hp hl
            have hE : Ext wd we := hG
            have hS := hE.size
            have q40 : f 3 = .agg #[.bool b2, .slice bd n3 dap, .slice bd2 n4 dap2] := tellV hp 0 3 rfl rfl (fun h => by cases h)
            have q41 : f 4 = .agg #[.bool b1, .slice ad n1 cap, .slice ad2 n2 cap2] := tellV hp 1 4 rfl rfl (fun h => by cases h)
            change OpGoal _ _ _ f we Ext _
            refine og_call (P := Try.prog) _ _ _ #[f 3, f 4] Try.func41 (by kernel_rfl) (by kernel_rfl) rfl rfl (by kernel_rfl) ?_
            rw [q40, q41]
            refine (rcmp_calls _ _ y x 1048576 1048576 _ (Vy.ext hE) (Vx.ext hE) (by omega)).mono ?_
            rintro e w' ⟨rfl, h2⟩
            exact ⟨_, rfl, h2, congrArg (Value.int .i64) Hsw.out⟩
          case o6 =>
            intro f we hG hp hl
            have hE : Ext wd we := hG
            have hS := hE.size
            have q42 : f 5 = .int .i64 (-p) := tellV hp 0 5 rfl rfl (fun h => by cases h)
            simp only [OpGoal]
            go_simp
            exact ⟨_, rfl, Ext.refl _, rfl⟩
          case o7 =>
            intro f we hG hp hl
            have hE : Ext wd we := hG
            have hS := hE.size
            have q39 : f 2 = .int .i64 p := tellV hp 0 2 rfl rfl (fun h => by cases h)
            have q43 : f 6 = .int .i64 p := tellV hp 1 6 rfl rfl (fun h => by cases h)
            simp only [OpGoal]
            go_simp
            exact ⟨_, rfl, Ext.refl _, rfl⟩
          case o8 =>
            intro f we hG hp hl
            have hE : Ext wd we := hG
            have hS := hE.size
            have q44 : f 7 = .bool true := tellV hp 0 7 rfl rfl (fun h => by cases h)
            simp only [OpGoal]
            go_simp
            exact ⟨_, rfl, Ext.refl _, rfl⟩
          case o9 =>
            intro f we hG hp hl
            have hE : Ext wd we := hG
            have hS := hE.size
            have qg : f 8 = .bool true := tellV hp 0 8 rfl rfl (fun h => by cases h)
            change OpGoal _ _ _ f we Ext _
            refine og_guard (j := 8) (want := true) rfl qg ?_
            change OpGoal _ _ _ f we Ext _
            exact og_load (P := Try.prog) _ _ w.heap.size _ _ _ rfl rfl rfl (M1.ext hE) Try.underlying28 rfl (by kernel_rfl) rfl
          case o10 =>
            intro f we hG hp hl
            have hE : Ext wd we := hG
            have hS := hE.size
            have qg : f 8 = .bool true := tellV hp 0 8 rfl rfl (fun h => by cases h)
            change OpGoal _ _ _ f we Ext _
            refine og_guard (j := 8) (want := true) rfl qg ?_
            change OpGoal _ _ _ f we Ext _
            exact og_load (P := Try.prog) _ _ ga9 _ _ _ rfl rfl rfl (ba9.ext hE) Try.underlying28 rfl (by kernel_rfl) rfl
          case o11 =>
            intro f we hG hp hl
            have hE : Ext wd we := hG
            have hS := hE.size
            have q46 : f 9 = .agg #[.bool b1, .slice ad n1 cap, .slice ad2 n2 cap2] := tellV hp 0 9 rfl rfl (fun h => by cases h)
            have q47 : f 10 = .agg #[.bool c9, .slice ad9 l9 cap9, .slice bd9 m9 dap9] := tellV hp 1 10 rfl rfl (fun h => by cases h)
            have qg : f 8 = .bool true := tellV hp 2 8 rfl rfl (fun h => by cases h)
            change OpGoal _ _ _ f we Ext _
            refine og_guard (j := 8) (want := true) rfl qg ?_
            change OpGoal _ _ _ f we Ext _
            refine og_call (P := Try.prog) _ _ _ #[f 9, f 10] Try.func41 (by kernel_rfl) (by kernel_rfl) rfl rfl (by kernel_rfl) ?_
            rw [q46, q47]
            refine (rcmp_calls _ _ x (h * (x + y)) 1048576 2097154 _ (Vx.ext hE) (Tm.ext hE) (by omega)).mono ?_
            rintro e w' ⟨rfl, h2⟩
            exact ⟨_, rfl, h2, congrArg (Value.int .i64) Hlo.out⟩
          case o12 =>
            intro f we hG hp hl
            have hE : Ext wd we := hG
            have hS := hE.size
            have qg : f 8 = .bool true := tellV hp 0 8 rfl rfl (fun h => by cases h)
            change OpGoal _ _ _ f we Ext _
            refine og_guard (j := 8) (want := true) rfl qg ?_
            change OpGoal _ _ _ f we Ext _
            exact og_load (P := Try.prog) _ _ w.heap.size _ _ _ rfl rfl rfl (M1.ext hE) Try.underlying28 rfl (by kernel_rfl) rfl
          case o13 =>
            intro f we hG hp hl
            have hE : Ext wd we := hG
            have hS := hE.size
            have qg : f 8 = .bool true := tellV hp 0 8 rfl rfl (fun h => by cases h)
            change OpGoal _ _ _ f we Ext _
            refine og_guard (j := 8) (want := true) rfl qg ?_
            change OpGoal _ _ _ f we Ext _
            exact og_load (P := Try.prog) _ _ (w.heap.size + 1) _ _ _ rfl rfl rfl (M2.ext hE) Try.underlying28 rfl (by kernel_rfl) rfl
          case o14 =>
            intro f we hG hp hl
            have hE : Ext wd we := hG
            have hS := hE.size
            have q49 : f 12 = .agg #[.bool b1, .slice ad n1 cap, .slice ad2 n2 cap2] := tellV hp 0 12 rfl rfl (fun h => by cases h)
            have q50 : f 13 = .agg #[.bool b2, .slice bd n3 dap, .slice bd2 n4 dap2] := tellV hp 1 13 rfl rfl (fun h => by cases h)
            have qg : f 8 = .bool true := tellV hp 3 8 rfl rfl (fun h => by cases h)
            change OpGoal _ _ _ f we Ext _
            refine og_guard (j := 8) (want := true) rfl qg ?_
            change OpGoal _ _ _ f we Ext _
            refine og_call (P := Try.prog) _ _ _ #[f 12, f 13] Try.func41 (by kernel_rfl) (by kernel_rfl) rfl rfl (by kernel_rfl) ?_
            rw [q49, q50]
            refine (rcmp_calls _ _ x y 1048576 1048576 _ (Vx.ext hE) (Vy.ext hE) (by omega)).mono ?_
            rintro e w' ⟨rfl, h2⟩
            exact ⟨_, rfl, h2, congrArg (Value.int .i64) Hp.out⟩
          case o15 =>
            intro f we hG hp hl
            have hE : Ext wd we := hG
            have hS := hE.size
            have q48 : f 11 = .int .i64 p := tellV hp 0 11 rfl rfl (fun h => by cases h)
            have q51 : f 14 = .int .i64 p := tellV hp 1 14 rfl rfl (fun h => by cases h)
            have qg : f 8 = .bool true := tellV hp 2 8 rfl rfl (fun h => by cases h)
            change OpGoal _ _ _ f we Ext _
            refine og_guard (j := 8) (want := true) rfl qg ?_
            simp only [OpGoal]
            go_simp
            exact ⟨_, rfl, Ext.refl _, rfl⟩
          case o16 =>
            intro f we hG hp hl
            have hE : Ext wd we := hG
            have hS := hE.size
            have q45 : f 8 = .bool true := tellV hp 0 8 rfl rfl (fun h => by cases h)
            have q52 : f 15 = .bool true := tellV hp 1 15 rfl rfl (fun h => by cases h)
            simp only [OpGoal]
            go_simp
            exact ⟨_, rfl, Ext.refl _, rfl⟩
          case o17 =>
            intro f we hG hp hl
            have hE : Ext wd we := hG
            have hS := hE.size
            have q53 : f 16 = .bool true := tellV hp 0 16 rfl rfl (fun h => by cases h)
            simp only [OpGoal]
            go_simp
            exact ⟨_, rfl, Ext.refl _, rfl⟩
          case o18 =>
            intro f we hG hp hl
            have hE : Ext wd we := hG
            have hS := hE.size
            have qg : f 17 = .bool true := tellV hp 0 17 rfl rfl (fun h => by cases h)
            change OpGoal _ _ _ f we Ext _
            refine og_guard (j := 17) (want := true) rfl qg ?_
            change OpGoal _ _ _ f we Ext _
            exact og_load (P := Try.prog) _ _ ga9 _ _ _ rfl rfl rfl (ba9.ext hE) Try.underlying28 rfl (by kernel_rfl) rfl
          case o19 =>
            intro f we hG hp hl
            have hE : Ext wd we := hG
            have hS := hE.size
            have qg : f 17 = .bool true := tellV hp 0 17 rfl rfl (fun h => by cases h)
            change OpGoal _ _ _ f we Ext _
            refine og_guard (j := 17) (want := true) rfl qg ?_
            change OpGoal _ _ _ f we Ext _
            exact og_load (P := Try.prog) _ _ (w.heap.size + 1) _ _ _ rfl rfl rfl (M2.ext hE) Try.underlying28 rfl (by kernel_rfl) rfl
          case o20 =>
            intro f we hG hp hl
            have hE : Ext wd we := hG
            have hS := hE.size
            have q55 : f 18 = .agg #[.bool c9, .slice ad9 l9 cap9, .slice bd9 m9 dap9] := tellV hp 0 18 rfl rfl (fun h => by cases h)
            have q56 : f 19 = .agg #[.bool b2, .slice bd n3 dap, .slice bd2 n4 dap2] := tellV hp 1 19 rfl rfl (fun h => by cases h)
            have qg : f 17 = .bool true := tellV hp 2 17 rfl rfl (fun h => by cases h)
            change OpGoal _ _ _ f we Ext _
            refine og_guard (j := 17) (want := true) rfl qg ?_
            change OpGoal _ _ _ f we Ext _
            refine og_call (P := Try.prog) _ _ _ #[f 18, f 19] Try.func41 (by kernel_rfl) (by kernel_rfl) rfl rfl (by kernel_rfl) ?_
            rw [q55, q56]
            refine (rcmp_calls _ _ (h * (x + y)) y 2097154 1048576 _ (Tm.ext hE) (Vy.ext hE) (by omega)).mono ?_
            rintro e w' ⟨rfl, h2⟩
            exact ⟨_, rfl, h2, congrArg (Value.int .i64) Hhi.out⟩
          case o21 =>
            intro f we hG hp hl
            have hE : Ext wd we := hG
            have hS := hE.size
            have qg : f 17 = .bool true := tellV hp 0 17 rfl rfl (fun h => by cases h)
            change OpGoal _ _ _ f we Ext _
            refine og_guard (j := 17) (want := true) rfl qg ?_
            change OpGoal _ _ _ f we Ext _
            exact og_load (P := Try.prog) _ _ w.heap.size _ _ _ rfl rfl rfl (M1.ext hE) Try.underlying28 rfl (by kernel_rfl) rfl
          case o22 =>
            intro f we hG hp hl
            have hE : Ext wd we := hG
            have hS := hE.size
            have qg : f 17 = .bool true := tellV hp 0 17 rfl rfl (fun h => by cases h)
            change OpGoal _ _ _ f we Ext _
            refine og_guard (j := 17) (want := true) rfl qg ?_
            change OpGoal _ _ _ f we Ext _
            exact og_load (P := Try.prog) _ _ (w.heap.size + 1) _ _ _ rfl rfl rfl (M2.ext hE) Try.underlying28 rfl (by kernel_rfl) rfl
          case o23 =>
            intro f we hG hp hl
            have hE : Ext wd we := hG
            have hS := hE.size
            have q58 : f 21 = .agg #[.bool b1, .slice ad n1 cap, .slice ad2 n2 cap2] := tellV hp 0 21 rfl rfl (fun h => by cases h)
            have q59 : f 22 = .agg #[.bool b2, .slice bd n3 dap, .slice bd2 n4 dap2] := tellV hp 1 22 rfl rfl (fun h => by cases h)
            have qg : f 17 = .bool true := tellV hp 3 17 rfl rfl (fun h => by cases h)
            change OpGoal _ _ _ f we Ext _
            refine og_guard (j := 17) (want := true) rfl qg ?_
            change OpGoal _ _ _ f we Ext _
            refine og_call (P := Try.prog) _ _ _ #[f 21, f 22] Try.func41 (by kernel_rfl) (by kernel_rfl) rfl rfl (by kernel_rfl) ?_
            rw [q58, q59]
            refine (rcmp_calls _ _ x y 1048576 1048576 _ (Vx.ext hE) (Vy.ext hE) (by omega)).mono ?_
            rintro e w' ⟨rfl, h2⟩
            exact ⟨_, rfl, h2, congrArg (Value.int .i64) Hp.out⟩
          case o24 =>
            intro f we hG hp hl
            have hE : Ext wd we := hG
            have hS := hE.size
            have q57 : f 20 = .int .i64 p := tellV hp 0 20 rfl rfl (fun h => by cases h)
            have q60 : f 23 = .int .i64 p := tellV hp 1 23 rfl rfl (fun h => by cases h)
            have qg : f 17 = .bool true := tellV hp 2 17 rfl rfl (fun h => by cases h)
            change OpGoal _ _ _ f we Ext _
            refine og_guard (j := 17) (want := true) rfl qg ?_
            simp only [OpGoal]
            go_simp
            exact ⟨_, rfl, Ext.refl _, rfl⟩
          case o25 =>
            intro f we hG hp hl
            have hE : Ext wd we := hG
            have hS := hE.size
            have q54 : f 17 = .bool true := tellV hp 0 17 rfl rfl (fun h => by cases h)
            have q61 : f 24 = .bool true := tellV hp 1 24 rfl rfl (fun h => by cases h)
            simp only [OpGoal]
            go_simp
            exact ⟨_, rfl, Ext.refl _, rfl⟩
          case o26 =>
            intro f we hG hp hl
            have hE : Ext wd we := hG
            have hS := hE.size
            have q62 : f 25 = .bool true := tellV hp 0 25 rfl rfl (fun h => by cases h)
            simp only [OpGoal]
            go_simp
            exact ⟨_, rfl, Ext.refl _, rfl⟩
        · intro f we hG hp
          have hE : Ext wd we := ChgS.nil hG
          have q6 : f 26 = .bool true := endV hp 26 (by decide) rfl (fun h => by cases h)
          try simp only [q6]
          clear hp
          go_wp2
          go_ret
          exact ⟨rfl, ED.trans hE⟩
  · have a1' : ¬ p ≤ 0 := a1
    have EA := e3
    have G1 := B1.ext EA
    have G2 := B2.ext EA
    have G3 := B3.ext EA
    have Sx := Rx.ext EA
    have Sy := Ry.ext EA
    have EB := E.trans EA
    clear B1 B2 B3 Rx Ry Rz
    go_wp2_with fail
    refine (rof_calls 1 2 _ (by omega) (by omega) (by omega) (by omega) (by omega)).mono ?_
    rw [← Hh.out]
    rintro e wb ⟨vh, rfl, qh, eb⟩
    obtain ⟨bh, hd1, hl, hcp, hd2, hm, hdp, rfl, qh⟩ := qh.opn
    obtain ⟨wc, hwc, ec, bhx, sc⟩ := alloc1 wb #[.bool bh, .slice hd1 hl hcp, .slice hd2 hm hdp] 28
    have F := eb.trans ec
    have K1 := G1.ext F
    have K2 := G2.ext F
    have Tx := Sx.ext F
    have Ty := Sy.ext F
    have Qh := qh.ext ec
    have Th := Qh.isR (k := 1) hhQ (by omega)
    have EC := EB.trans F
    go_wp2_with fail
    rw [← hwc]
    refine wp_region_als [⟨5, 28, 3, #[.bool false, .slice none 0 0, .slice none 0 0]⟩] [⟨6, ⟨5, 28, 3, #[.bool false, .slice none 0 0, .slice none 0 0]⟩, PA.frQ (h * (x + y))⟩] [PA.val (.agg #[.bool bh, .slice hd1 hl hcp, .slice hd2 hm hdp]), PA.val (.agg #[.bool b1, .slice ad n1 cap, .slice ad2 n2 cap2]), PA.val (.agg #[.bool b2, .slice bd n3 dap, .slice bd2 n4 dap2]), PA.frQ (x + y), PA.frQ (h * (x + y)), PA.any, PA.any]
      (by kernel_rfl) (by kernel_rfl) (fun f => (by simp only [fillR, fillL, List.setIfInBounds_toArray, List.set_cons_succ, List.set_cons_zero, Nat.reduceAdd]; rfl)) ?_ ?_ ?_ ?_ ?_
    · intro x hx; simp only [List.mem_cons, List.not_mem_nil, or_false] at hx; rcases hx with rfl
      · exact ⟨rfl, rfl, by decide, by decide, rfl, noInt3 _ _ _ _ _ _ _⟩
    · intro x hx; simp only [List.mem_cons, List.not_mem_nil, or_false] at hx; rcases hx with rfl <;> exact ⟨rfl, rfl, by simp⟩
    · intro x hx y hy h; simp only [List.mem_cons, List.not_mem_nil, or_false] at hx hy; rcases hx with rfl <;> rcases hy with rfl
      · exact absurd rfl h
    · refine ⟨?o0, ?o1, ?o2, ?o3, ?o4, ?o5, ?o6, trivial⟩
      case o0 =>
        intro f wd hE hp
        have hS := hE.size
        change OpGoal _ _ _ f wd Ext _
        exact og_load (P := Try.prog) _ _ wb.heap.size _ _ _ rfl rfl rfl (bhx.ext hE) Try.underlying28 rfl (by kernel_rfl) rfl
      case o1 =>
        intro f wd hE hp
        have hS := hE.size
        change OpGoal _ _ _ f wd Ext _
        exact og_load (P := Try.prog) _ _ w.heap.size _ _ _ rfl rfl rfl (K1.ext hE) Try.underlying28 rfl (by kernel_rfl) rfl
      case o2 =>
        intro f wd hE hp
        have hS := hE.size
        change OpGoal _ _ _ f wd Ext _
        exact og_load (P := Try.prog) _ _ (w.heap.size + 1) _ _ _ rfl rfl rfl (K2.ext hE) Try.underlying28 rfl (by kernel_rfl) rfl
      case o3 =>
        intro f wd hE hp
        have hS := hE.size
        have q33 : f 1 = .agg #[.bool b1, .slice ad n1 cap, .slice ad2 n2 cap2] := tellA hp 0 1 rfl rfl rfl
        have q34 : f 2 = .agg #[.bool b2, .slice bd n3 dap, .slice bd2 n4 dap2] := tellA hp 1 2 rfl rfl rfl
        change OpGoal _ _ _ f wd Ext _
        refine og_call (P := Try.prog) _ _ _ #[f 1, f 2] Try.func43 (by kernel_rfl) (by kernel_rfl) rfl rfl (by kernel_rfl) ?_
        rw [q33, q34]
        refine (radd_calls _ _ x y 1048576 1048576 _ (Tx.ext hE) (Ty.ext hE) (by omega)).mono ?_
        rintro e w' ⟨v', rfl, h1, _, h2⟩
        exact ⟨v', rfl, h2, h1.mono hS⟩
      case o4 =>
        intro f wd hE hp
        have hS := hE.size
        have q32 : f 0 = .agg #[.bool bh, .slice hd1 hl hcp, .slice hd2 hm hdp] := tellA hp 0 0 rfl rfl rfl
        have q35 := tellA hp 1 3 rfl rfl rfl
        change OpGoal _ _ _ f wd Ext _
        refine og_call (P := Try.prog) _ _ _ #[f 0, f 3] Try.func42 (by kernel_rfl) (by kernel_rfl) rfl rfl (by kernel_rfl) ?_
        rw [q32]
        refine (rmul_calls _ _ h (x + y) 1 2097153 _ (Th.ext hE) (q35.isR (by omega) (by omega)) (by omega)).mono ?_
        rintro e w' ⟨v', rfl, h1, _, h2⟩
        exact ⟨v', rfl, h2, h1.mono hS⟩
      case o5 =>
        intro f wd hE hp
        have hS := hE.size
        change OpGoal _ _ _ f wd (fun a b => b = a.alloc _) _
        exact og_alloc (P := Try.prog) _ _ (.agg #[.bool false, .slice none 0 0, .slice none 0 0]) rfl rfl (by kernel_rfl) rfl
      case o6 =>
        intro f wd hE hp
        have hS := hE.size
        have q36 := tellA hp 1 4 rfl rfl rfl
        intro g old hfa hSg hbx hsz hno
        change OpGoal _ _ _ f wd (Chg g) _
        obtain ⟨cells, hv, hcs, hc1, hcn⟩ := FrQ.parts q36
        exact og_storeA (P := Try.prog) (PA.frQ (h * (x + y))) 3 _ _ _ g _ old cells rfl rfl hfa hv hbx (by rw [hcs]; kernel_rfl) hsz hcs hc1 hSg (show 28 ≠ 79 by decide) (show 28 ≠ 3 by decide) hno hcn (hv ▸ q36)
    · intro f wd hE hp hal
      obtain ⟨ga9, ca9, fa9, la9, ba9, na9, pa9⟩ := hal ⟨5, 28, 3, #[.bool false, .slice none 0 0, .slice none 0 0]⟩ (by simp) (by decide)
      dsimp only at fa9 la9 ba9 na9
      have za9 := pa9 ⟨6, ⟨5, 28, 3, #[.bool false, .slice none 0 0, .slice none 0 0]⟩, PA.frQ (h * (x + y))⟩ (by simp) (by show 6 < 7; decide) rfl rfl
      clear pa9
      clear hp hal
      obtain ⟨c9, ad9, l9, cap9, bd9, m9, dap9, hv9, q9⟩ := FrQ.opn za9
      cases hv9
      have Tm := q9.isR (k := 2097154) (by omega) (by omega)
      have M1 := K1.ext hE
      have M2 := K2.ext hE
      have Vx := Tx.ext hE
      have Vy := Ty.ext hE
      have ED := EC.trans hE
      go_wp2_with fail
      refine wp_region_puts [] [PP.val (.agg #[.bool b1, .slice ad n1 cap, .slice ad2 n2 cap2]), PP.val (.agg #[.bool b2, .slice bd n3 dap, .slice bd2 n4 dap2]), PP.val (.int .i64 p), PP.val (.agg #[.bool b2, .slice bd n3 dap, .slice bd2 n4 dap2]), PP.val (.agg #[.bool b1, .slice ad n1 cap, .slice ad2 n2 cap2]), PP.val (.int .i64 (-p)), PP.val (.int .i64 p), PP.val (.bool true), PP.val (.bool true), PP.val (.agg #[.bool b1, .slice ad n1 cap, .slice ad2 n2 cap2]), PP.val (.agg #[.bool c9, .slice ad9 l9 cap9, .slice bd9 m9 dap9]), PP.val (.int .i64 p), PP.val (.agg #[.bool b1, .slice ad n1 cap, .slice ad2 n2 cap2]), PP.val (.agg #[.bool b2, .slice bd n3 dap, .slice bd2 n4 dap2]), PP.val (.int .i64 p), PP.val (.bool true), PP.val (.bool true), PP.val (.bool true), PP.val (.agg #[.bool c9, .slice ad9 l9 cap9, .slice bd9 m9 dap9]), PP.val (.agg #[.bool b2, .slice bd n3 dap, .slice bd2 n4 dap2]), PP.val (.int .i64 p), PP.val (.agg #[.bool b1, .slice ad n1 cap, .slice ad2 n2 cap2]), PP.val (.agg #[.bool b2, .slice bd n3 dap, .slice bd2 n4 dap2]), PP.val (.int .i64 p), PP.val (.bool true), PP.val (.bool true), PP.val (.bool true)] [] [0, 1, 2, 3, 4, 5, 6, 7, 8, 9, 10, 11, 12, 13, 14, 15, 16, 17, 18, 19, 20, 21, 22, 23, 24, 25, 26]
        (by kernel_rfl) (by kernel_rfl) (fun f => (by simp only [fillR, fillL, List.setIfInBounds_toArray, List.set_cons_succ, List.set_cons_zero, Nat.reduceAdd]; rfl)) ?_ ?_ ?_ ?_ ?_
      · intro x hx; cases hx
      · intro x hx; cases hx
      · intro x hx; cases hx
      · refine ⟨?o0, ?o1, ?o2, ?o3, ?o4, ?o5, ?o6, ?o7, ?o8, ?o9, ?o10, ?o11, ?o12, ?o13, ?o14, ?o15, ?o16, ?o17, ?o18, ?o19, ?o20, ?o21, ?o22, ?o23, ?o24, ?o25, ?o26, trivial⟩
        case o0 =>
          intro f we hG hp hl
          have hE : Ext wd we := hG
          have hS := hE.size
          change OpGoal _ _ _ f we Ext _
          exact og_load (P := Try.prog) _ _ w.heap.size _ _ _ rfl rfl rfl (M1.ext hE) Try.underlying28 rfl (by kernel_rfl) rfl
        case o1 =>
          intro f we hG hp hl
          have hE : Ext wd we := hG
          have hS := hE.size
          change OpGoal _ _ _ f we Ext _
          exact og_load (P := Try.prog) _ _ (w.heap.size + 1) _ _ _ rfl rfl rfl (M2.ext hE) Try.underlying28 rfl (by kernel_rfl) rfl
        case o2 =>
          intro f we hG hp hl
          have hE : Ext wd we := hG
          have hS := hE.size
          have q37 : f 0 = .agg #[.bool b1, .slice ad n1 cap, .slice ad2 n2 cap2] := tellV hp 0 0 rfl rfl (fun h => by cases h)
          have q38 : f 1 = .agg #[.bool b2, .slice bd n3 dap, .slice bd2 n4 dap2] := tellV hp 1 1 rfl rfl (fun h => by cases h)
          change OpGoal _ _ _ f we Ext _
          refine og_call (P := Try.prog) _ _ _ #[f 0, f 1] Try.func41 (by kernel_rfl) (by kernel_rfl) rfl rfl (by kernel_rfl) ?_
          rw [q37, q38]
          refine (rcmp_calls _ _ x y 1048576 1048576 _ (Vx.ext hE) (Vy.ext hE) (by omega)).mono ?_
          rintro e w' ⟨rfl, h2⟩
          exact ⟨_, rfl, h2, congrArg (Value.int .i64) Hp.out⟩
        case o3 =>
          intro f we hG hp hl
          have hE : Ext wd we := hG
          have hS := hE.size
          change OpGoal _ _ _ f we Ext _
          exact og_load (P := Try.prog) _ _ (w.heap.size + 1) _ _ _ rfl rfl rfl (M2.ext hE) Try.underlying28 rfl (by kernel_rfl) rfl
        case o4 =>
          intro f we hG hp hl
          have hE : Ext wd we := hG
          have hS := hE.size
          change OpGoal _ _ _ f we Ext _
          exact og_load (P := Try.prog) _ _ w.heap.size _ _ _ rfl rfl rfl (M1.ext hE) Try.underlying28 rfl (by kernel_rfl) rfl
        case o5 =>
          intro f we hG hp hl
          have hE : Ext wd we := hG
          have hS := hE.size
          have q40 : f 3 = .agg #[.bool b2, .slice bd n3 dap, .slice bd2 n4 dap2] := tellV hp 0 3 rfl rfl (fun h => by cases h)
          have q41 : f 4 = .agg #[.bool b1, .slice ad n1 cap, .slice ad2 n2 cap2] := tellV hp 1 4 rfl rfl (fun h => by cases h)
          change OpGoal _ _ _ f we Ext _
          refine og_call (P := Try.prog) _ _ _ #[f 3, f 4] Try.func41 (by kernel_rfl) (by kernel_rfl) rfl rfl (by kernel_rfl) ?_
          rw [q40, q41]
          refine (rcmp_calls _ _ y x 1048576 1048576 _ (Vy.ext hE) (Vx.ext hE) (by omega)).mono ?_
          rintro e w' ⟨rfl, h2⟩
          exact ⟨_, rfl, h2, congrArg (Value.int .i64) Hsw.out⟩
        case o6 =>
          intro f we hG hp hl
          have hE : Ext wd we := hG
          have hS := hE.size
          have q42 : f 5 = .int .i64 (-p) := tellV hp 0 5 rfl rfl (fun h => by cases h)
          simp only [OpGoal]
          go_simp
          exact ⟨_, rfl, Ext.refl _, rfl⟩
        case o7 =>
          intro f we hG hp hl
          have hE : Ext wd we := hG
          have hS := hE.size
          have q39 : f 2 = .int .i64 p := tellV hp 0 2 rfl rfl (fun h => by cases h)
          have q43 : f 6 = .int .i64 p := tellV hp 1 6 rfl rfl (fun h => by cases h)
          simp only [OpGoal]
          go_simp
          exact ⟨_, rfl, Ext.refl _, rfl⟩
        case o8 =>
          intro f we hG hp hl
          have hE : Ext wd we := hG
          have hS := hE.size
          have q44 : f 7 = .bool true := tellV hp 0 7 rfl rfl (fun h => by cases h)
          simp only [OpGoal]
          go_simp
          exact ⟨_, rfl, Ext.refl _, rfl⟩
        case o9 =>
          intro f we hG hp hl
          have hE : Ext wd we := hG
          have hS := hE.size
          have qg : f 8 = .bool true := tellV hp 0 8 rfl rfl (fun h => by cases h)
          change OpGoal _ _ _ f we Ext _
          refine og_guard (j := 8) (want := true) rfl qg ?_
          change OpGoal _ _ _ f we Ext _
          exact og_load (P := Try.prog) _ _ w.heap.size _ _ _ rfl rfl rfl (M1.ext hE) Try.underlying28 rfl (by kernel_rfl) rfl
        case o10 =>
          intro f we hG hp hl
          have hE : Ext wd we := hG
          have hS := hE.size
          have qg : f 8 = .bool true := tellV hp 0 8 rfl rfl (fun h => by cases h)
          change OpGoal _ _ _ f we Ext _
          refine og_guard (j := 8) (want := true) rfl qg ?_
          change OpGoal _ _ _ f we Ext _
          exact og_load (P := Try.prog) _ _ ga9 _ _ _ rfl rfl rfl (ba9.ext hE) Try.underlying28 rfl (by kernel_rfl) rfl
        case o11 =>
          intro f we hG hp hl
          have hE : Ext wd we := hG
          have hS := hE.size
          have q46 : f 9 = .agg #[.bool b1, .slice ad n1 cap, .slice ad2 n2 cap2] := tellV hp 0 9 rfl rfl (fun h => by cases h)
          have q47 : f 10 = .agg #[.bool c9, .slice ad9 l9 cap9, .slice bd9 m9 dap9] := tellV hp 1 10 rfl rfl (fun h => by cases h)
          have qg : f 8 = .bool true := tellV hp 2 8 rfl rfl (fun h => by cases h)
          change OpGoal _ _ _ f we Ext _
          refine og_guard (j := 8) (want := true) rfl qg ?_
          change OpGoal _ _ _ f we Ext _
          refine og_call (P := Try.prog) _ _ _ #[f 9, f 10] Try.func41 (by kernel_rfl) (by kernel_rfl) rfl rfl (by kernel_rfl) ?_
          rw [q46, q47]
          refine (rcmp_calls _ _ x (h * (x + y)) 1048576 2097154 _ (Vx.ext hE) (Tm.ext hE) (by omega)).mono ?_
          rintro e w' ⟨rfl, h2⟩
          exact ⟨_, rfl, h2, congrArg (Value.int .i64) Hlo.out⟩
        case o12 =>
          intro f we hG hp hl
          have hE : Ext wd we := hG
          have hS := hE.size
          have qg : f 8 = .bool true := tellV hp 0 8 rfl rfl (fun h => by cases h)
          change OpGoal _ _ _ f we Ext _
          refine og_guard (j := 8) (want := true) rfl qg ?_
          change OpGoal _ _ _ f we Ext _
          exact og_load (P := Try.prog) _ _ w.heap.size _ _ _ rfl rfl rfl (M1.ext hE) Try.underlying28 rfl (by kernel_rfl) rfl
        case o13 =>
          intro f we hG hp hl
          have hE : Ext wd we := hG
          have hS := hE.size
          have qg : f 8 = .bool true := tellV hp 0 8 rfl rfl (fun h => by cases h)
          change OpGoal _ _ _ f we Ext _
          refine og_guard (j := 8) (want := true) rfl qg ?_
          change OpGoal _ _ _ f we Ext _
          exact og_load (P := Try.prog) _ _ (w.heap.size + 1) _ _ _ rfl rfl rfl (M2.ext hE) Try.underlying28 rfl (by kernel_rfl) rfl
        case o14 =>
          intro f we hG hp hl
          have hE : Ext wd we := hG
          have hS := hE.size
          have q49 : f 12 = .agg #[.bool b1, .slice ad n1 cap, .slice ad2 n2 cap2] := tellV hp 0 12 rfl rfl (fun h => by cases h)
          have q50 : f 13 = .agg #[.bool b2, .slice bd n3 dap, .slice bd2 n4 dap2] := tellV hp 1 13 rfl rfl (fun h => by cases h)
          have qg : f 8 = .bool true := tellV hp 3 8 rfl rfl (fun h => by cases h)
          change OpGoal _ _ _ f we Ext _
          refine og_guard (j := 8) (want := true) rfl qg ?_
          change OpGoal _ _ _ f we Ext _
          refine og_call (P := Try.prog) _ _ _ #[f 12, f 13] Try.func41 (by kernel_rfl) (by kernel_rfl) rfl rfl (by kernel_rfl) ?_
          rw [q49, q50]
          refine (rcmp_calls _ _ x y 1048576 1048576 _ (Vx.ext hE) (Vy.ext hE) (by omega)).mono ?_
          rintro e w' ⟨rfl, h2⟩
          exact ⟨_, rfl, h2, congrArg (Value.int .i64) Hp.out⟩
        case o15 =>
          intro f we hG hp hl
          have hE : Ext wd we := hG
          have hS := hE.size
          have q48 : f 11 = .int .i64 p := tellV hp 0 11 rfl rfl (fun h => by cases h)
          have q51 : f 14 = .int .i64 p := tellV hp 1 14 rfl rfl (fun h => by cases h)
          have qg : f 8 = .bool true := tellV hp 2 8 rfl rfl (fun h => by cases h)
          change OpGoal _ _ _ f we Ext _
          refine og_guard (j := 8) (want := true) rfl qg ?_
          simp only [OpGoal]
          go_simp
          exact ⟨_, rfl, Ext.refl _, rfl⟩
        case o16 =>
          intro f we hG hp hl
          have hE : Ext wd we := hG
          have hS := hE.size
          have q45 : f 8 = .bool true := tellV hp 0 8 rfl rfl (fun h => by cases h)
          have q52 : f 15 = .bool true := tellV hp 1 15 rfl rfl (fun h => by cases h)
          simp only [OpGoal]
          go_simp
          exact ⟨_, rfl, Ext.refl _, rfl⟩
        case o17 =>
          intro f we hG hp hl
          have hE : Ext wd we := hG
          have hS := hE.size
          have q53 : f 16 = .bool true := tellV hp 0 16 rfl rfl (fun h => by cases h)
          simp only [OpGoal]
          go_simp
          exact ⟨_, rfl, Ext.refl _, rfl⟩
        case o18 =>
          intro f we hG hp hl
          have hE : Ext wd we := hG
          have hS := hE.size
          have qg : f 17 = .bool true := tellV hp 0 17 rfl rfl (fun h => by cases h)
          change OpGoal _ _ _ f we Ext _
          refine og_guard (j := 17) (want := true) rfl qg ?_
          change OpGoal _ _ _ f we Ext _
          exact og_load (P := Try.prog) _ _ ga9 _ _ _ rfl rfl rfl (ba9.ext hE) Try.underlying28 rfl (by kernel_rfl) rfl
        case o19 =>
          intro f we hG hp hl
          have hE : Ext wd we := hG
          have hS := hE.size
          have qg : f 17 = .bool true := tellV hp 0 17 rfl rfl (fun h => by cases h)
          change OpGoal _ _ _ f we Ext _
          refine og_guard (j := 17) (want := true) rfl qg ?_
          change OpGoal _ _ _ f we Ext _
          exact og_load (P := Try.prog) _ _ (w.heap.size + 1) _ _ _ rfl rfl rfl (M2.ext hE) Try.underlying28 rfl (by kernel_rfl) rfl
        case o20 =>
          intro f we hG hp hl
          have hE : Ext wd we := hG
          have hS := hE.size
          have q55 : f 18 = .agg #[.bool c9, .slice ad9 l9 cap9, .slice bd9 m9 dap9] := tellV hp 0 18 rfl rfl (fun h => by cases h)
          have q56 : f 19 = .agg #[.bool b2, .slice bd n3 dap, .slice bd2 n4 dap2] := tellV hp 1 19 rfl rfl (fun h => by cases h)
          have qg : f 17 = .bool true := tellV hp 2 17 rfl rfl (fun h => by cases h)
          change OpGoal _ _ _ f we Ext _
          refine og_guard (j := 17) (want := true) rfl qg ?_
          change OpGoal _ _ _ f we Ext _
          refine og_call (P := Try.prog) _ _ _ #[f 18, f 19] Try.func41 (by kernel_rfl) (by kernel_rfl) rfl rfl (by kernel_rfl) ?_
          rw [q55, q56]
          refine (rcmp_calls _ _ (h * (x + y)) y 2097154 1048576 _ (Tm.ext hE) (Vy.ext hE) (by omega)).mono ?_
          rintro e w' ⟨rfl, h2⟩
          exact ⟨_, rfl, h2, congrArg (Value.int .i64) Hhi.out⟩
        case o21 =>
          intro f we hG hp hl
          have hE : Ext wd we := hG
          have hS := hE.size
          have qg : f 17 = .bool true := tellV hp 0 17 rfl rfl (fun h => by cases h)
          change OpGoal _ _ _ f we Ext _
          refine og_guard (j := 17) (want := true) rfl qg ?_
          change OpGoal _ _ _ f we Ext _
          exact og_load (P := Try.prog) _ _ w.heap.size _ _ _ rfl rfl rfl (M1.ext hE) Try.underlying28 rfl (by kernel_rfl) rfl
        case o22 =>
          intro f we hG hp hl
          have hE : Ext wd we := hG
          have hS := hE.size
          have qg : f 17 = .bool true := tellV hp 0 17 rfl rfl (fun h => by cases h)
          change OpGoal _ _ _ f we Ext _
          refine og_guard (j := 17) (want := true) rfl qg ?_
          change OpGoal _ _ _ f we Ext _
          exact og_load (P := Try.prog) _ _ (w.heap.size + 1) _ _ _ rfl rfl rfl (M2.ext hE) Try.underlying28 rfl (by kernel_rfl) rfl
        case o23 =>
          intro f we hG hp hl
          have hE : Ext wd we := hG
          have hS := hE.size
          have q58 : f 21 = .agg #[.bool b1, .slice ad n1 cap, .slice ad2 n2 cap2] := tellV hp 0 21 rfl rfl (fun h => by cases h)
          have q59 : f 22 = .agg #[.bool b2, .slice bd n3 dap, .slice bd2 n4 dap2] := tellV hp 1 22 rfl rfl (fun h => by cases h)
          have qg : f 17 = .bool true := tellV hp 3 17 rfl rfl (fun h => by cases h)
          change OpGoal _ _ _ f we Ext _
          refine og_guard (j := 17) (want := true) rfl qg ?_
          change OpGoal _ _ _ f we Ext _
          refine og_call (P := Try.prog) _ _ _ #[f 21, f 22] Try.func41 (by kernel_rfl) (by kernel_rfl) rfl rfl (by kernel_rfl) ?_
          rw [q58, q59]
          refine (rcmp_calls _ _ x y 1048576 1048576 _ (Vx.ext hE) (Vy.ext hE) (by omega)).mono ?_
          rintro e w' ⟨rfl, h2⟩
          exact ⟨_, rfl, h2, congrArg (Value.int .i64) Hp.out⟩
        case o24 =>
          intro f we hG hp hl
          have hE : Ext wd we := hG
          have hS := hE.size
          have q57 : f 20 = .int .i64 p := tellV hp 0 20 rfl rfl (fun h => by cases h)
          have q60 : f 23 = .int .i64 p := tellV hp 1 23 rfl rfl (fun h => by cases h)
          have qg : f 17 = .bool true := tellV hp 2 17 rfl rfl (fun h => by cases h)
          change OpGoal _ _ _ f we Ext _
          refine og_guard (j := 17) (want := true) rfl qg ?_
          simp only [OpGoal]
          go_simp
          exact ⟨_, rfl, Ext.refl _, rfl⟩
        case o25 =>
          intro f we hG hp hl
          have hE : Ext wd we := hG
          have hS := hE.size
          have q54 : f 17 = .bool true := tellV hp 0 17 rfl rfl (fun h => by cases h)
          have q61 : f 24 = .bool true := tellV hp 1 24 rfl rfl (fun h => by cases h)
          simp only [OpGoal]
          go_simp
          exact ⟨_, rfl, Ext.refl _, rfl⟩
        case o26 =>
          intro f we hG hp hl
          have hE : Ext wd we := hG
          have hS := hE.size
          have q62 : f 25 = .bool true := tellV hp 0 25 rfl rfl (fun h => by cases h)
          simp only [OpGoal]
          go_simp
          exact ⟨_, rfl, Ext.refl _, rfl⟩
      · intro f we hG hp
        have hE : Ext wd we := ChgS.nil hG
        have q6 : f 26 = .bool true := endV hp 26 (by decide) rfl (fun h => by cases h)
        try simp only [q6]
        clear hp
        go_wp2
        go_ret
        exact ⟨rfl, ED.trans hE⟩
end Go.Proofs.Ytnefipinicfegaa
