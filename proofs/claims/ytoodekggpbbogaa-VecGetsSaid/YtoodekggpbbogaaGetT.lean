/-
  The law VecLinear.
-/
import Derived.Test.YtoodekggpbbogaaVegT
namespace Go.Proofs.Ytoodekggpbbogaa
open Go.RowKit
set_option linter.unusedVariables false
set_option linter.unusedSimpArgs false

set_option maxRecDepth 100000 in
set_option maxHeartbeats 1000000 in
theorem emptyR (w : World) : (Instr.buildSlice 61 0 #[]).run Try.prog w = .ok (.slice (some ⟨w.heap.size, 0, none⟩) 0 0) (w.alloc (.cells #[] 28)) := by kernel_rfl
set_option maxRecDepth 100000 in
set_option maxHeartbeats 1000000 in
theorem LS.empty (e : TypeId) (n B : Nat) (w : World) (hB : B ≤ w.heap.size) : LS e n B (w.alloc (.cells #[] e)) (.slice (some ⟨w.heap.size, 0, none⟩) 0 0) [] :=
  LS.of_hold (vs := []) (rest := []) (.nil n) hB (Nat.le_refl _) (by decide) (by simp) (Bx.new w e #[])
/-- A number that has been made, of at most k words. -/
def FrK (B k : Nat) (w : World) (v : Value) (q : Rat) : Prop := FrQ B w v q ∧ szQ q ≤ k
set_option maxRecDepth 100000 in
set_option maxHeartbeats 1000000 in
theorem FrK.ext {B k : Nat} {w w' : World} {v : Value} {q : Rat} (h : FrK B k w v q) (he : Ext w w') : FrK B k w' v q := ⟨h.1.ext he, h.2⟩
/-- A list of numbers that have been made. -/
def KL (B k : Nat) (w : World) (v : Value) (xs : List Rat) : Prop := OL 28 3 B (FrK B k) w v xs
set_option maxRecDepth 100000 in
set_option maxHeartbeats 1000000 in
theorem KL.ext {B k : Nat} {w w' : World} {v : Value} {xs : List Rat} (h : KL B k w v xs) (he : Ext w w') : KL B k w' v xs := OL.ext h he fun u y hu => hu.ext he
set_option maxRecDepth 100000 in
set_option maxHeartbeats 1000000 in
theorem KL.ql {B k : Nat} {w : World} {v : Value} {xs : List Rat} (h : KL B k w v xs) (hk : k ≤ LIM) : QL k w v xs := (OL.sl h (by omega)).map fun u y hu => hu.1.isR hu.2 hk
set_option maxRecDepth 100000 in
set_option maxHeartbeats 1000000 in
/-- One number more. -/
theorem KL.app {B k : Nat} {w w' : World} {v v' : Value} {vs : List Value} {xs : List Rat} {u : Value} {q : Rat} (hl : vs.length = xs.length) (hv : ∀ (i : Nat) (u : Value) (y : Rat), vs[i]? = some u → xs[i]? = some y → FrK B k w u y) (hls0 : LS 28 3 B w v vs) (hls : LS 28 3 B w' v' (vs ++ [u])) (hg : w.grownBy w' v.ownBlock) (hu : FrK B k w u q) : KL B k w' v' (xs ++ [q]) := by
  have hR : ∀ u y, FrK B k w u y → FrK B k w' u y := fun u y h => by
    rcases hls0.2.2 with ⟨h1, h2⟩ | ⟨g', cap', cur, h1, h2, h3, h4⟩
    · rw [h1] at hg
      exact h.ext hg
    · rw [h1] at hg
      exact ⟨h.1.chgB hg h3 (by decide), h.2⟩
  exact OL.app hl hv hls hR (hR _ _ hu)

set_option maxRecDepth 100000 in
set_option maxHeartbeats 1000000 in
theorem Bx.grow {t : TypeId} {w w' : World} {g : Nat} {row : Option Nat} {cs : Array Value} (h : Bx t w g cs) (k : w.grownBy w' row) (hg : ∀ g', row = some g' → g ≠ g') : Bx t w' g cs := by
  cases row with
  | none => exact h.ext k
  | some g' => exact Chg.blk k h (hg g' rfl)

set_option maxRecDepth 100000 in
set_option maxHeartbeats 8000000 in
theorem vecLinear_calls (av v u : Value) (ea : RE) (l m : List TE) (w : World) (ha : RawE w av ea) (hv : TLE w v l) (hu : TLE w u m) :
    Calls Try.prog 9 #[av, v, u] w fun e w' => e = .returned (.bool true) ∧ Ext w w' := by
  obtain ⟨ba, xa, ya⟩ := ea
  have HA := Lib.hid ha
  have HV := Lib.hid hv
  have HU := Lib.hid hu
  obtain ⟨ad, n1, cap, ad2, n2, cap2, hn1, hn2, rfl⟩ := ha.1.opn2
  obtain ⟨adv, nv, capv, hnv, rfl, hnv1, -⟩ := hv.at
  obtain ⟨adu, nu, capu, hnu, rfl, hnu1, -⟩ := hu.at
  have Hn1 := Lib.hid hn1
  have Hn2 := Lib.hid hn2
  clear ha hv hu hn1 hn2 hnv hnu
  have lim : (100000 : Nat) ≤ LIM := by rw [LIM_eq]; omega
  have eb := emptyR
  go_enter Try.func9, Try.ntmps9
  obtain ⟨w1, hw1, e1, b1, s1⟩ := alloc1 w #[.bool ba, .slice ad n1 cap, .slice ad2 n2 cap2] 28
  go_wp2_with fail
  rw [← hw1]
  refine (speaks5_calls _).mono ?_
  rintro e w2 ⟨rfl, e2⟩
  have E2 := e1.trans e2
  clear hw1
  go_wp2_with fail
  refine (great_calls _ l w2 (HV.out.ext E2)).mono ?_
  rintro e w3 ⟨rfl, e3⟩
  obtain ⟨p, hp⟩ : ∃ p, p = greatV l := ⟨_, rfl⟩
  rw [← hp]
  have HP := Lib.hid hp
  clear hp
  cases p with
  | true =>
    go_wp2
    go_ret
    exact ⟨rfl, E2.trans e3⟩
  | false =>
  have E3 := E2.trans e3
  go_wp2_with fail
  refine (great_calls _ m w3 (HU.out.ext E3)).mono ?_
  rintro e w4 ⟨rfl, e4⟩
  obtain ⟨q, hq⟩ : ∃ q, q = greatV m := ⟨_, rfl⟩
  rw [← hq]
  have HQ := Lib.hid hq
  clear hq
  cases q with
  | true =>
    go_wp2
    go_ret
    exact ⟨rfl, E3.trans e4⟩
  | false =>
  have E4 := E3.trans e4
  have hs4 : w.heap.size + 1 ≤ w4.heap.size := by
    have := (e2.trans (e3.trans e4)).size
    omega
  have B4 := ((b1.ext e2).ext e3).ext e4
  have hc0 := B4.cell 0
  have hc1 := B4.cell 1
  have hc2 := B4.cell 2
  clear b1 e2 e3 e4
  go_wp2_with fail
  refine (rqwords3_calls _ ba xa ya _ (HA.out.1.ext E4) HA.out.2.2.2).mono ?_
  rw [← Hn1.out, ← Hn2.out]
  rintro e w5 ⟨rfl, e5⟩
  clear hc0 hc1 hc2
  have E5 := E4.trans e5
  by_cases hg : 6 < n1 + n2
  · have hg' : (6 : Int) < ((n1 + n2 : Nat) : Int) := by omega
    go_wp2
    go_ret
    exact ⟨rfl, E5⟩
  have hg' : ¬ (6 : Int) < ((n1 + n2 : Nat) : Int) := by omega
  have X1 : xa.length ≤ 6 := by rw [← Hn1.out]; omega
  have X2 : ya.length ≤ 6 := by rw [← Hn2.out]; omega
  have B5 := B4.ext e5
  have hs5 : w.heap.size + 1 ≤ w5.heap.size := Nat.le_trans hs4 e5.size
  obtain ⟨a, hae⟩ : ∃ a, a = rawR ba xa ya := ⟨_, rfl⟩
  have RA := Lib.hid (show IsR w (.agg #[.bool ba, .slice ad n1 cap, .slice ad2 n2 cap2]) a 6 from by rw [hae]; exact HA.out.1.isR HA.out.2.1 HA.out.2.2.1 6 X1 X2 (by omega) (by omega))
  obtain ⟨L, hL⟩ : ∃ L : List (Int × Rat), L = l.map fun e => (e.1, ratE e.2) := ⟨_, rfl⟩
  obtain ⟨M, hM⟩ : ∃ M : List (Int × Rat), M = m.map fun e => (e.1, ratE e.2) := ⟨_, rfl⟩
  have TV := Lib.hid (show TL 6 w (.slice adv nv capv) L from by rw [hL]; exact HV.out.tl 6 (by omega) (by omega) fun e he => (greatE_not HP.out.symm).2 e.2 (List.mem_map_of_mem he))
  have TU := Lib.hid (show TL 6 w (.slice adu nu capu) M from by rw [hM]; exact HU.out.tl 6 (by omega) (by omega) fun e he => (greatE_not HQ.out.symm).2 e.2 (List.mem_map_of_mem he))
  have hLl : L.length ≤ 30 := by rw [hL, List.length_map]; have := (greatE_not HP.out.symm).1; rwa [List.length_map] at this
  have hMl : M.length ≤ 30 := by rw [hM, List.length_map]; have := (greatE_not HQ.out.symm).1; rwa [List.length_map] at this
  clear hae hL hM HA HV HU HP HQ X1 X2 E2 E3 E4 e1 s1
  go_wp2_with fail
  go_loopw [7, 8] (fun s7 s8 wr => ∃ (i : Nat) (xs : List Rat) (ado : Option Addr) (capo : Nat), i ≤ 8 ∧ s8 = .int .i64 (i : Int) ∧ s7 = .slice ado i capo ∧ Hid (xs.length = i ∧ KL (w.heap.size + 1) 211 wr (.slice ado i capo) xs ∧ Ext w wr ∧ Bx 28 wr w.heap.size #[.bool ba, .slice ad n1 cap, .slice ad2 n2 cap2])) (fun _ s8 _ => (8 - intOf s8).toNat)
  case atStart => exact ⟨0, [], some ⟨w5.heap.size, 0, none⟩, 0, by omega, rfl, rfl, Lib.hid ⟨rfl, ⟨[], LS.empty _ _ _ _ hs5, rfl, fun i u y h => by simp at h⟩, E5.trans ((Ext.refl _).alloc _), B5.ext ((Ext.refl _).alloc _)⟩⟩
  case round =>
    obtain ⟨i, xs, ado, capo, hi, rfl, rfl, hH⟩ := hrel
    have hEr := hH.out.2.2.1
    rcases Nat.eq_or_lt_of_le hi with hin | hin
    · subst hin
      have BR := hH.out.2.2.2
      have hd0 := BR.cell 0
      have hd1 := BR.cell 1
      have hd2 := BR.cell 2
      have HX := Lib.hid hH.out.2.1
      have HXl := Lib.hid hH.out.1
      clear B5 hH
      have hm60 : (mkV (M ++ scV a L)).length ≤ 60 := by
        have := mkV_len (M ++ scV a L)
        rw [List.length_append, scV_len] at this
        omega
      have zL : szQ (dotV L xs) ≤ 6541 := by
        have := sz_dot TV.out.szs (HX.out.ql (by omega)).szs
        omega
      have zM : szQ (dotV M xs) ≤ 6541 := by
        have := sz_dot TU.out.szs (HX.out.ql (by omega)).szs
        omega
      go_wp2_with fail
      refine (vaxpy_calls 6 6 6 12 _ _ _ a L M wr (RA.out.ext hEr) (TV.out.ext hEr) (TU.out.ext hEr) (by omega) (by omega) (by omega) (by omega)).mono ?_
      rintro e w6 ⟨v6, rfl, t6, e6⟩
      have T6 := Lib.hid ((t6.le (show _ ≤ 780 by omega)).tl (by omega))
      clear t6
      go_wp2_with fail
      refine (vdot_calls 780 211 _ _ _ xs w6 T6.out ((HX.out.ext e6).ql (by omega)) (by omega)).mono ?_
      rintro e w7 ⟨v7, rfl, q7, z7, e7⟩
      rw [linear] at q7
      obtain ⟨b7, a7, l7, k7, a7', l7', k7', rfl, q7⟩ := q7.opn
      have E7 := (hEr.trans e6).trans e7
      have X7 := HX.out.ext (e6.trans e7)
      have B7 := BR.ext (e6.trans e7)
      obtain ⟨w9, hw9, e9, B9, s9⟩ := alloc1 w7 #[.bool b7, .slice a7 l7 k7, .slice a7' l7' k7'] 28
      clear T6 z7 BR hd0 hd1 hd2
      go_wp2_with fail
      rw [← hw9]
      have Q9 := Lib.hid (q7.ext e9)
      have E9 := E7.trans e9
      have X9 := Lib.hid (X7.ext e9)
      have BA := B7.ext e9
      clear hw9 s9 q7 e7 e6 B7 X7 E7 HX e9
      refine wp_region_alt [⟨9, 28, 3, #[.bool false, .slice none 0 0, .slice none 0 0]⟩] [⟨10, ⟨9, 28, 3, #[.bool false, .slice none 0 0, .slice none 0 0]⟩, PT.frQ (a * dotV L xs + dotV M xs)⟩] [PT.val (.agg #[.bool ba, .slice ad n1 cap, .slice ad2 n2 cap2]), PT.val (.slice adv nv capv), PT.val (.slice ado 8 capo), PT.frQ (dotV L xs), PT.frQ (a * dotV L xs), PT.val (.slice adu nu capu), PT.val (.slice ado 8 capo), PT.frQ (dotV M xs), PT.frQ (a * dotV L xs + dotV M xs), PT.any, PT.any]
        (by kernel_rfl) (by kernel_rfl) (fun f => (by simp only [fillR, fillL, List.setIfInBounds_toArray, List.set_cons_succ, List.set_cons_zero, Nat.reduceAdd]; rfl)) ?_ ?_ ?_ ?_ ?_
      · intro x hx; simp only [List.mem_cons, List.not_mem_nil, or_false] at hx; rcases hx with rfl
        · exact ⟨rfl, rfl, by decide, by decide, rfl, rfl⟩
      · intro x hx; simp only [List.mem_cons, List.not_mem_nil, or_false] at hx; rcases hx with rfl <;> exact ⟨rfl, rfl, by simp⟩
      · intro x hx y hy h; simp only [List.mem_cons, List.not_mem_nil, or_false] at hx hy; rcases hx with rfl <;> rcases hy with rfl
        · exact absurd rfl h
      · refine ⟨?o0, ?o1, ?o2, ?o3, ?o4, ?o5, ?o6, ?o7, ?o8, ?o9, ?o10, trivial⟩
        case o0 =>
          intro f w10 hE hp
          have hS := hE.size
          change OpGoal _ _ _ f w10 Ext _
          exact og_load (P := Try.prog) _ _ w.heap.size _ _ _ rfl rfl rfl (BA.ext hE) Try.underlying28 rfl (by kernel_rfl) rfl
        case o1 =>
          intro f w10 hE hp
          have hS := hE.size
          change OpGoal _ _ _ f w10 Ext _
          simp only [OpGoal]
          go_simp
          exact ⟨_, rfl, Ext.refl _, rfl⟩
        case o2 =>
          intro f w10 hE hp
          have hS := hE.size
          change OpGoal _ _ _ f w10 Ext _
          simp only [OpGoal]
          go_simp
          exact ⟨_, rfl, Ext.refl _, rfl⟩
        case o3 =>
          intro f w10 hE hp
          have hS := hE.size
          have q43 : f 1 = .slice adv nv capv := tellT hp 0 1 rfl rfl rfl
          have q44 : f 2 = .slice ado 8 capo := tellT hp 1 2 rfl rfl rfl
          change OpGoal _ _ _ f w10 Ext _
          refine og_call (P := Try.prog) _ _ _ #[f 1, f 2] Try.func57 (by kernel_rfl) (by kernel_rfl) rfl rfl (by kernel_rfl) ?_
          rw [q43, q44]
          refine (vdot_calls 6 211 _ _ L xs _ (TV.out.ext (E9.trans hE)) ((X9.out.ext hE).ql (by omega)) (by omega)).mono ?_
          rintro e w' ⟨v', rfl, h1, h3, h2⟩
          exact ⟨v', rfl, h2, h1.mono hS⟩
        case o4 =>
          intro f w10 hE hp
          have hS := hE.size
          have q42 : f 0 = .agg #[.bool ba, .slice ad n1 cap, .slice ad2 n2 cap2] := tellT hp 0 0 rfl rfl rfl
          have q45 := tellT hp 1 3 rfl rfl rfl
          change OpGoal _ _ _ f w10 Ext _
          refine og_call (P := Try.prog) _ _ _ #[f 0, f 3] Try.func43 (by kernel_rfl) (by kernel_rfl) rfl rfl (by kernel_rfl) ?_
          rw [q42]
          refine (rmul_calls _ _ a (dotV L xs) 6 6541 _ (RA.out.ext (E9.trans hE)) (q45.isR zL (by omega)) (by omega)).mono ?_
          rintro e w' ⟨v', rfl, h1, h3, h2⟩
          exact ⟨v', rfl, h2, h1.mono hS⟩
        case o5 =>
          intro f w10 hE hp
          have hS := hE.size
          change OpGoal _ _ _ f w10 Ext _
          simp only [OpGoal]
          go_simp
          exact ⟨_, rfl, Ext.refl _, rfl⟩
        case o6 =>
          intro f w10 hE hp
          have hS := hE.size
          change OpGoal _ _ _ f w10 Ext _
          simp only [OpGoal]
          go_simp
          exact ⟨_, rfl, Ext.refl _, rfl⟩
        case o7 =>
          intro f w10 hE hp
          have hS := hE.size
          have q47 : f 5 = .slice adu nu capu := tellT hp 0 5 rfl rfl rfl
          have q48 : f 6 = .slice ado 8 capo := tellT hp 1 6 rfl rfl rfl
          change OpGoal _ _ _ f w10 Ext _
          refine og_call (P := Try.prog) _ _ _ #[f 5, f 6] Try.func57 (by kernel_rfl) (by kernel_rfl) rfl rfl (by kernel_rfl) ?_
          rw [q47, q48]
          refine (vdot_calls 6 211 _ _ M xs _ (TU.out.ext (E9.trans hE)) ((X9.out.ext hE).ql (by omega)) (by omega)).mono ?_
          rintro e w' ⟨v', rfl, h1, h3, h2⟩
          exact ⟨v', rfl, h2, h1.mono hS⟩
        case o8 =>
          intro f w10 hE hp
          have hS := hE.size
          have q46 := tellT hp 0 4 rfl rfl rfl
          have q49 := tellT hp 1 7 rfl rfl rfl
          change OpGoal _ _ _ f w10 Ext _
          refine og_call (P := Try.prog) _ _ _ #[f 4, f 7] Try.func41 (by kernel_rfl) (by kernel_rfl) rfl rfl (by kernel_rfl) ?_
          refine (radd_calls _ _ (a * dotV L xs) (dotV M xs) 6547 6541 _ (q46.isR (by have := szQ_mul RA.out.sz zL; omega) (by omega)) (q49.isR zM (by omega)) (by omega)).mono ?_
          rintro e w' ⟨v', rfl, h1, h3, h2⟩
          exact ⟨v', rfl, h2, h1.mono hS⟩
        case o9 =>
          intro f w10 hE hp
          have hS := hE.size
          change OpGoal _ _ _ f w10 (fun a b => b = a.alloc _) _
          exact og_alloc (P := Try.prog) _ _ (.agg #[.bool false, .slice none 0 0, .slice none 0 0]) rfl rfl (by kernel_rfl) rfl
        case o10 =>
          intro f w10 hE hp
          have hS := hE.size
          have q50 := tellT hp 1 8 rfl rfl rfl
          intro g old hfa hSg hbx hsz hno
          change OpGoal _ _ _ f w10 (Chg g) _
          obtain ⟨cells, hv, hcs, hc1, hcn⟩ := FrQ.parts q50
          exact og_storeT (P := Try.prog) (PT.frQ (a * dotV L xs + dotV M xs)) 3 _ _ _ g _ old cells rfl rfl hfa hv hbx (by rw [hcs]; kernel_rfl) hsz hcs hc1 hSg (show 28 ≠ 88 by decide) (show 28 ≠ 3 by decide) hno rfl (hv ▸ q50)
      · intro f w10 hE hp hal
        obtain ⟨ga10, ca10, fa10, la10, ba10, na10, pa10⟩ := hal ⟨9, 28, 3, #[.bool false, .slice none 0 0, .slice none 0 0]⟩ (by simp) (by decide)
        dsimp only at fa10 la10 ba10 na10
        have za10 := pa10 ⟨10, ⟨9, 28, 3, #[.bool false, .slice none 0 0, .slice none 0 0]⟩, PT.frQ (a * dotV L xs + dotV M xs)⟩ (by simp) (by show 10 < 11; decide) rfl rfl
        clear pa10
        clear hp hal
        obtain ⟨b10, a10, l10, k10, a10', l10', k10', hv10, q10⟩ := FrQ.opn za10
        cases hv10
        have E10 := E9.trans hE
        have B10 := B9.ext hE
        have Q10 := Q9.out.ext hE
        have hd0 := B10.cell 0
        have hd1 := B10.cell 1
        have hd2 := B10.cell 2
        have hg0 := ba10.cell 0
        have hg1 := ba10.cell 1
        have hg2 := ba10.cell 2
        go_wp2_with fail
        refine (same_true _ _ _ _ _ _ Q10 q10).mono ?_
        rintro e w11 ⟨rfl, e11⟩
        clear hd0 hd1 hd2 hg0 hg1 hg2
        go_wp2_with fail
        refine (rwhole_calls (-1) _ (by omega) (by omega)).mono ?_
        rintro e w12 ⟨v12, rfl, q12, e12⟩
        have E12 := (E10.trans e11).trans e12
        go_wp2_with fail
        refine (vaxpy_calls 1 6 6 7 _ _ _ (((-1 : Int)) : Rat) L L w12 (q12.isR (by decide +kernel) (by omega)) (TV.out.ext E12) (TV.out.ext E12) (by omega) (by omega) (by omega) (by omega)).mono ?_
        rintro e w13 ⟨v13, rfl, t13, e13⟩
        rw [less_self] at t13
        have T13 := Lib.hid ((t13.le (show _ ≤ 480 by omega)).tle (by omega))
        clear t13
        go_wp2_with fail
        refine (vsame_calls _ _ (fmV []) [] w13 T13.out (TLE.none _ _ (by omega))).mono ?_
        rintro e w14 ⟨rfl, e14⟩
        have HT : (decide (fmV [] = [])) = true := rfl
        rw [HT]
        clear HT
        go_wp2
        go_ret
        exact ⟨rfl, (E12.trans e13).trans e14⟩
    · have hlt : (i : Int) < 8 := by omega
      obtain ⟨c, hc⟩ : ∃ c : Int, c = 7 - (i : Int) := ⟨_, rfl⟩
      have hw7 : 7 - (i : Int) = c := hc.symm
      have hcb : -1 ≤ c ∧ c ≤ 7 := by omega
      obtain ⟨hxl, ⟨vs, hls, hvl, hvs⟩, -, BR⟩ := hH.out
      have hvi : vs.length = i := by omega
      subst hvi
      have HLS := Lib.hid hls
      have HVS := Lib.hid (And.intro hvl hvs)
      clear hc hls hvl hvs hxl hH eb
      go_wp2_with fail
      refine (vget_calls 6 _ _ M wr (TU.out.ext hEr) (by omega)).mono ?_
      rintro e w6 ⟨v6, rfl, q6, z6, e6⟩
      obtain ⟨b6, a6, l6, k6, a6', l6', k6', rfl, q6⟩ := q6.opn
      have hwr := hEr.size
      have hr5 : w.heap.size + 1 ≤ wr.heap.size := BR.lt
      have hs6 : w.heap.size + 1 ≤ w6.heap.size := Nat.le_trans hr5 e6.size
      have HFK : Hid (FrK (w.heap.size + 1) 211 w6 (.agg #[.bool b6, .slice a6 l6 k6, .slice a6' l6' k6']) (getV M c)) := Lib.hid ⟨q6.mono hr5, by omega⟩
      clear q6 z6
      go_wp2_with (first
        | (at_builtin; go_loud (refine wpList_append_LS rfl _ _ 61 rfl 28 3 56 (w.heap.size + 1) Try.underlying61 (by kernel_rfl) (by kernel_rfl) (by omega) _ vs rfl (HLS.out.ext (e6.trans ((Ext.refl _).alloc _))) ⟨w6.heap.size, 0, none⟩ #[.bool b6, .slice a6 l6 k6, .slice a6' l6' k6'] rfl rfl (news_new _ _ _) (by kernel_rfl) (by omega) (by omega) (by rw [alloc_size]; omega) ?_); intro g' cap2' w7 hls7 hg7 hwh7 hlt7)
        | fail)
      go_roundw
      case rel =>
        have hA := (Ext.refl w6).alloc (.cells #[.bool b6, .slice a6 l6 k6, .slice a6' l6' k6'] 28)
        refine ⟨vs.length + 1, xs ++ [getV M c], some ⟨g', 0, none⟩, cap2', by omega, by simp, rfl, Lib.hid ⟨by rw [List.length_append, ← HVS.out.1]; rfl, ?_, ?_, ?_⟩⟩
        · exact KL.app HVS.out.1 (fun i u y h1 h2 => ((HVS.out.2 i u y h1 h2).ext e6).ext hA) (HLS.out.ext (e6.trans hA)) hls7 hg7 (HFK.out.ext hA)
        · exact ((hEr.trans e6).trans hA).stepG hg7 fun g hg => by have := HLS.out.ge g hg; omega
        · exact ((BR.ext e6).ext hA).grow hg7 fun g hg => by have := HLS.out.ge g hg; omega
      case measure => simp [intOf]; omega
end Go.Proofs.Ytoodekggpbbogaa

/-
  The law VecGets.
-/
namespace Go.Proofs.Ytoodekggpbbogaa
open Go.RowKit
set_option linter.unusedVariables false
set_option linter.unusedSimpArgs false

set_option maxRecDepth 100000 in
set_option maxHeartbeats 8000000 in
theorem vecGets_calls (av v u : Value) (ea : RE) (l m : List TE) (w : World) (ha : RawE w av ea) (hv : TLE w v l) (hu : TLE w u m) :
    Calls Try.prog 10 #[av, v, u] w fun e w' => e = .returned (.bool true) ∧ Ext w w' := by
  obtain ⟨ba, xa, ya⟩ := ea
  have HA := Lib.hid ha
  have HV := Lib.hid hv
  have HU := Lib.hid hu
  obtain ⟨ad, n1, cap, ad2, n2, cap2, hn1, hn2, rfl⟩ := ha.1.opn2
  obtain ⟨adv, nv, capv, hnv, rfl, hnv1, -⟩ := hv.at
  obtain ⟨adu, nu, capu, hnu, rfl, hnu1, -⟩ := hu.at
  have Hn1 := Lib.hid hn1
  have Hn2 := Lib.hid hn2
  clear ha hv hu hn1 hn2 hnv hnu
  have lim : (100000 : Nat) ≤ LIM := by rw [LIM_eq]; omega
  go_enter Try.func10, Try.ntmps10
  obtain ⟨w1, hw1, e1, b1, s1⟩ := alloc1 w #[.bool ba, .slice ad n1 cap, .slice ad2 n2 cap2] 28
  go_wp2_with fail
  rw [← hw1]
  refine (speaks5_calls _).mono ?_
  rintro e w2 ⟨rfl, e2⟩
  have E2 := e1.trans e2
  clear hw1
  go_wp2_with fail
  refine (great_calls _ l w2 (HV.out.ext E2)).mono ?_
  rintro e w3 ⟨rfl, e3⟩
  obtain ⟨p, hp⟩ : ∃ p, p = greatV l := ⟨_, rfl⟩
  rw [← hp]
  have HP := Lib.hid hp
  clear hp
  cases p with
  | true =>
    go_wp2
    go_ret
    exact ⟨rfl, E2.trans e3⟩
  | false =>
  have E3 := E2.trans e3
  go_wp2_with fail
  refine (great_calls _ m w3 (HU.out.ext E3)).mono ?_
  rintro e w4 ⟨rfl, e4⟩
  obtain ⟨q, hq⟩ : ∃ q, q = greatV m := ⟨_, rfl⟩
  rw [← hq]
  have HQ := Lib.hid hq
  clear hq
  cases q with
  | true =>
    go_wp2
    go_ret
    exact ⟨rfl, E3.trans e4⟩
  | false =>
  have E4 := E3.trans e4
  have hs4 : w.heap.size + 1 ≤ w4.heap.size := by
    have := (e2.trans (e3.trans e4)).size
    omega
  have B4 := ((b1.ext e2).ext e3).ext e4
  have hc0 := B4.cell 0
  have hc1 := B4.cell 1
  have hc2 := B4.cell 2
  clear b1 e2 e3 e4
  go_wp2_with fail
  refine (rqwords3_calls _ ba xa ya _ (HA.out.1.ext E4) HA.out.2.2.2).mono ?_
  rw [← Hn1.out, ← Hn2.out]
  rintro e w5 ⟨rfl, e5⟩
  clear hc0 hc1 hc2
  have E5 := E4.trans e5
  by_cases hg : 6 < n1 + n2
  · have hg' : (6 : Int) < ((n1 + n2 : Nat) : Int) := by omega
    go_wp2
    go_ret
    exact ⟨rfl, E5⟩
  have hg' : ¬ (6 : Int) < ((n1 + n2 : Nat) : Int) := by omega
  have X1 : xa.length ≤ 6 := by rw [← Hn1.out]; omega
  have X2 : ya.length ≤ 6 := by rw [← Hn2.out]; omega
  have B5 := B4.ext e5
  have hs5 : w.heap.size + 1 ≤ w5.heap.size := Nat.le_trans hs4 e5.size
  obtain ⟨a, hae⟩ : ∃ a, a = rawR ba xa ya := ⟨_, rfl⟩
  have RA := Lib.hid (show IsR w (.agg #[.bool ba, .slice ad n1 cap, .slice ad2 n2 cap2]) a 6 from by rw [hae]; exact HA.out.1.isR HA.out.2.1 HA.out.2.2.1 6 X1 X2 (by omega) (by omega))
  obtain ⟨L, hL⟩ : ∃ L : List (Int × Rat), L = l.map fun e => (e.1, ratE e.2) := ⟨_, rfl⟩
  obtain ⟨M, hM⟩ : ∃ M : List (Int × Rat), M = m.map fun e => (e.1, ratE e.2) := ⟨_, rfl⟩
  have TV := Lib.hid (show TL 6 w (.slice adv nv capv) L from by rw [hL]; exact HV.out.tl 6 (by omega) (by omega) fun e he => (greatE_not HP.out.symm).2 e.2 (List.mem_map_of_mem he))
  have TU := Lib.hid (show TL 6 w (.slice adu nu capu) M from by rw [hM]; exact HU.out.tl 6 (by omega) (by omega) fun e he => (greatE_not HQ.out.symm).2 e.2 (List.mem_map_of_mem he))
  have hLl : L.length ≤ 30 := by rw [hL, List.length_map]; have := (greatE_not HP.out.symm).1; rwa [List.length_map] at this
  have hMl : M.length ≤ 30 := by rw [hM, List.length_map]; have := (greatE_not HQ.out.symm).1; rwa [List.length_map] at this
  clear hae hL hM HA HV HU HP HQ X1 X2 E2 E3 E4 e1 s1
  have hm60 : (mkV (M ++ scV a L)).length ≤ 60 := by
    have := mkV_len (M ++ scV a L)
    rw [List.length_append, scV_len] at this
    omega
  have hsc : (mkV ([] ++ scV a L)).length ≤ 30 := by
    have := mkV_len ([] ++ scV a L)
    have h2 : ([] ++ scV a L).length = L.length := scV_len a L
    omega
  have zA := RA.out.sz
  have hd0 := B5.cell 0
  have hd1 := B5.cell 1
  have hd2 := B5.cell 2
  go_wp2_with fail
  refine (vaxpy_calls 6 6 6 12 _ _ _ a L M w5 (RA.out.ext E5) (TV.out.ext E5) (TU.out.ext E5) (by omega) (by omega) (by omega) (by omega)).mono ?_
  rintro e w6 ⟨v6, rfl, t6, e6⟩
  have T6 := Lib.hid (t6.le (show _ ≤ 780 by omega))
  have E6 := E5.trans e6
  have B6 := B5.ext e6
  clear t6 B5 e6 hd0 hd1 hd2
  go_wp2_with fail
  go_loopw [8] (fun s8 wr => ∃ i : Nat, i ≤ 11 ∧ s8 = .int .i64 ((i : Int) - 1) ∧ Ext w6 wr) (fun s8 _ => (10 - intOf s8).toNat)
  case atStart => exact ⟨0, by omega, rfl, Ext.refl _⟩
  case round =>
    obtain ⟨i, hi, rfl, hE0⟩ := hrel
    have BR := B6.ext hE0
    have ER := E6.trans hE0
    have TR := Lib.hid (T6.out.ext hE0)
    obtain ⟨c, hc⟩ : ∃ c : Int, c = (i : Int) - 1 := ⟨_, rfl⟩
    rw [← hc]
    rcases Nat.eq_or_lt_of_le hi with hin | hin
    · have hlt : ¬ c < 10 := by omega
      clear hc hi hin
      go_wp2_with fail
      refine wp_region_puts [] [PP.val (.agg #[.bool ba, .slice ad n1 cap, .slice ad2 n2 cap2]), PP.val (.agg #[.bool ba, .slice ad n1 cap, .slice ad2 n2 cap2]), PP.val (.slice adv nv capv), PP.tO 390 (mkV ([] ++ scV a L)), PP.tO 11910 (mkV ([] ++ scV (a * a) L)), PP.val (.agg #[.bool ba, .slice ad n1 cap, .slice ad2 n2 cap2]), PP.val (.agg #[.bool ba, .slice ad n1 cap, .slice ad2 n2 cap2]), PP.frQ (a * a), PP.val (.slice adv nv capv), PP.tO 570 (mkV ([] ++ scV (a * a) L)), PP.val (.bool true), PP.val (.bool true), PP.val (v6), PP.tO 46860 (mkV (M ++ scV a L)), PP.val (v6), PP.val (.bool true), PP.val (.bool true), PP.val (.bool true)] [] [0, 1, 2, 3, 4, 5, 6, 7, 8, 9, 10, 11, 12, 13, 14, 15, 16, 17]
        (by kernel_rfl) (by kernel_rfl) (fun f => (by simp only [fillR, fillL, List.setIfInBounds_toArray, List.set_cons_succ, List.set_cons_zero, Nat.reduceAdd]; rfl)) ?_ ?_ ?_ ?_ ?_
      · intro x hx; cases hx
      · intro x hx; cases hx
      · intro x hx; cases hx
      · refine ⟨?o0, ?o1, ?o2, ?o3, ?o4, ?o5, ?o6, ?o7, ?o8, ?o9, ?o10, ?o11, ?o12, ?o13, ?o14, ?o15, ?o16, ?o17, trivial⟩
        case o0 =>
          intro f w7 hG hp hl
          have hE : Ext wr w7 := hG
          have hS := hE.size
          change OpGoal _ _ _ f w7 Ext _
          exact og_load (P := Try.prog) _ _ w.heap.size _ _ _ rfl rfl rfl (BR.ext hE) Try.underlying28 rfl (by kernel_rfl) rfl
        case o1 =>
          intro f w7 hG hp hl
          have hE : Ext wr w7 := hG
          have hS := hE.size
          change OpGoal _ _ _ f w7 Ext _
          exact og_load (P := Try.prog) _ _ w.heap.size _ _ _ rfl rfl rfl (BR.ext hE) Try.underlying28 rfl (by kernel_rfl) rfl
        case o2 =>
          intro f w7 hG hp hl
          have hE : Ext wr w7 := hG
          have hS := hE.size
          simp only [OpGoal]
          go_simp
          exact ⟨_, rfl, Ext.refl _, rfl⟩
        case o3 =>
          intro f w7 hG hp hl
          have hE : Ext wr w7 := hG
          have hS := hE.size
          have q45 : f 1 = .agg #[.bool ba, .slice ad n1 cap, .slice ad2 n2 cap2] := tellV hp 0 1 rfl rfl (fun h => by cases h)
          have q46 : f 2 = .slice adv nv capv := tellV hp 1 2 rfl rfl (fun h => by cases h)
          change OpGoal _ _ _ f w7 Ext _
          refine og_call (P := Try.prog) _ _ _ #[f 1, f 2] Try.func60 (by kernel_rfl) (by kernel_rfl) rfl rfl (by kernel_rfl) ?_
          rw [q45, q46]
          refine (vscale_calls 6 6 12 _ _ a L _ (RA.out.ext (ER.trans hE)) (TV.out.ext (ER.trans hE)) (by omega) (by omega) (by omega)).mono ?_
          rintro e w' ⟨v', rfl, h1, h2⟩
          exact ⟨v', rfl, h2, (h1.le (by omega)).mono hS⟩
        case o4 =>
          intro f w7 hG hp hl
          have hE : Ext wr w7 := hG
          have hS := hE.size
          have q44 : f 0 = .agg #[.bool ba, .slice ad n1 cap, .slice ad2 n2 cap2] := tellV hp 0 0 rfl rfl (fun h => by cases h)
          have q47 := tellV hp 1 3 rfl rfl (fun _ => hE)
          change OpGoal _ _ _ f w7 Ext _
          refine og_call (P := Try.prog) _ _ _ #[f 0, f 3] Try.func60 (by kernel_rfl) (by kernel_rfl) rfl rfl (by kernel_rfl) ?_
          rw [q44]
          refine (vscale_calls 6 390 396 _ _ a (mkV ([] ++ scV a L)) _ (RA.out.ext (ER.trans hE)) (q47.tl (by omega)) (by omega) (by omega) (by omega)).mono ?_
          rintro e w' ⟨v', rfl, h1, h2⟩
          rw [sc_sc] at h1
          exact ⟨v', rfl, h2, (h1.le (by omega)).mono hS⟩
        case o5 =>
          intro f w7 hG hp hl
          have hE : Ext wr w7 := hG
          have hS := hE.size
          change OpGoal _ _ _ f w7 Ext _
          exact og_load (P := Try.prog) _ _ w.heap.size _ _ _ rfl rfl rfl (BR.ext hE) Try.underlying28 rfl (by kernel_rfl) rfl
        case o6 =>
          intro f w7 hG hp hl
          have hE : Ext wr w7 := hG
          have hS := hE.size
          change OpGoal _ _ _ f w7 Ext _
          exact og_load (P := Try.prog) _ _ w.heap.size _ _ _ rfl rfl rfl (BR.ext hE) Try.underlying28 rfl (by kernel_rfl) rfl
        case o7 =>
          intro f w7 hG hp hl
          have hE : Ext wr w7 := hG
          have hS := hE.size
          have q49 : f 5 = .agg #[.bool ba, .slice ad n1 cap, .slice ad2 n2 cap2] := tellV hp 0 5 rfl rfl (fun h => by cases h)
          have q50 : f 6 = .agg #[.bool ba, .slice ad n1 cap, .slice ad2 n2 cap2] := tellV hp 1 6 rfl rfl (fun h => by cases h)
          change OpGoal _ _ _ f w7 Ext _
          refine og_call (P := Try.prog) _ _ _ #[f 5, f 6] Try.func43 (by kernel_rfl) (by kernel_rfl) rfl rfl (by kernel_rfl) ?_
          rw [q49, q50]
          refine (rmul_calls _ _ a a 6 6 _ (RA.out.ext (ER.trans hE)) (RA.out.ext (ER.trans hE)) (by omega)).mono ?_
          rintro e w' ⟨v', rfl, h1, h3, h2⟩
          exact ⟨v', rfl, h2, h1.mono hS⟩
        case o8 =>
          intro f w7 hG hp hl
          have hE : Ext wr w7 := hG
          have hS := hE.size
          simp only [OpGoal]
          go_simp
          exact ⟨_, rfl, Ext.refl _, rfl⟩
        case o9 =>
          intro f w7 hG hp hl
          have hE : Ext wr w7 := hG
          have hS := hE.size
          have q51 := tellV hp 0 7 rfl rfl (fun _ => hE)
          have q52 : f 8 = .slice adv nv capv := tellV hp 1 8 rfl rfl (fun h => by cases h)
          change OpGoal _ _ _ f w7 Ext _
          refine og_call (P := Try.prog) _ _ _ #[f 7, f 8] Try.func60 (by kernel_rfl) (by kernel_rfl) rfl rfl (by kernel_rfl) ?_
          rw [q52]
          refine (vscale_calls 12 6 18 _ _ (a * a) L _ (q51.isR (by have := szQ_mul zA zA; omega) (by omega)) (TV.out.ext (ER.trans hE)) (by omega) (by omega) (by omega)).mono ?_
          rintro e w' ⟨v', rfl, h1, h2⟩
          exact ⟨v', rfl, h2, (h1.le (by omega)).mono hS⟩
        case o10 =>
          intro f w7 hG hp hl
          have hE : Ext wr w7 := hG
          have hS := hE.size
          have q48 := tellV hp 0 4 rfl rfl (fun _ => hE)
          have q53 := tellV hp 1 9 rfl rfl (fun _ => hE)
          change OpGoal _ _ _ f w7 Ext _
          refine og_call (P := Try.prog) _ _ _ #[f 4, f 9] Try.func59 (by kernel_rfl) (by kernel_rfl) rfl rfl (by kernel_rfl) ?_
          refine (all_true _ _ _ _ (q48.tle (by omega)) (q53.tle (by omega))).mono ?_
          rintro e w' ⟨rfl, h2⟩
          exact ⟨_, rfl, h2, rfl⟩
        case o11 =>
          intro f w7 hG hp hl
          have hE : Ext wr w7 := hG
          have hS := hE.size
          have q54 : f 10 = .bool true := tellV hp 0 10 rfl rfl (fun h => by cases h)
          exact ⟨_, rfl, Ext.refl _, q54⟩
        case o12 =>
          intro f w7 hG hp hl
          have hE : Ext wr w7 := hG
          have hS := hE.size
          have qg : f 11 = .bool true := tellV hp 0 11 rfl rfl (fun h => by cases h)
          change OpGoal _ _ _ f w7 Ext _
          refine og_guard (j := 11) (want := true) rfl qg ?_
          simp only [OpGoal]
          go_simp
          exact ⟨_, rfl, Ext.refl _, rfl⟩
        case o13 =>
          intro f w7 hG hp hl
          have hE : Ext wr w7 := hG
          have hS := hE.size
          have q56 : f 12 = v6 := tellV hp 0 12 rfl rfl (fun h => by cases h)
          have qg : f 11 = .bool true := tellV hp 1 11 rfl rfl (fun h => by cases h)
          change OpGoal _ _ _ f w7 Ext _
          refine og_guard (j := 11) (want := true) rfl qg ?_
          change OpGoal _ _ _ f w7 Ext _
          refine og_call (P := Try.prog) _ _ _ #[f 12] Try.func61 (by kernel_rfl) (by kernel_rfl) rfl rfl (by kernel_rfl) ?_
          rw [q56]
          refine (vmake_calls 780 _ _ _ ((TR.out.ext hE).tl (by omega)) (by omega) (by omega)).mono ?_
          rintro e w' ⟨v', rfl, h1, h2⟩
          rw [mkV_mkV] at h1
          exact ⟨v', rfl, h2, (h1.le (by omega)).mono hS⟩
        case o14 =>
          intro f w7 hG hp hl
          have hE : Ext wr w7 := hG
          have hS := hE.size
          have qg : f 11 = .bool true := tellV hp 0 11 rfl rfl (fun h => by cases h)
          change OpGoal _ _ _ f w7 Ext _
          refine og_guard (j := 11) (want := true) rfl qg ?_
          simp only [OpGoal]
          go_simp
          exact ⟨_, rfl, Ext.refl _, rfl⟩
        case o15 =>
          intro f w7 hG hp hl
          have hE : Ext wr w7 := hG
          have hS := hE.size
          have q57 := tellV hp 0 13 rfl rfl (fun _ => hE)
          have q58 : f 14 = v6 := tellV hp 1 14 rfl rfl (fun h => by cases h)
          have qg : f 11 = .bool true := tellV hp 3 11 rfl rfl (fun h => by cases h)
          change OpGoal _ _ _ f w7 Ext _
          refine og_guard (j := 11) (want := true) rfl qg ?_
          change OpGoal _ _ _ f w7 Ext _
          refine og_call (P := Try.prog) _ _ _ #[f 13, f 14] Try.func59 (by kernel_rfl) (by kernel_rfl) rfl rfl (by kernel_rfl) ?_
          rw [q58]
          refine (all_true _ _ _ _ (q57.tle (by omega)) ((TR.out.ext hE).tle (by omega))).mono ?_
          rintro e w' ⟨rfl, h2⟩
          exact ⟨_, rfl, h2, rfl⟩
        case o16 =>
          intro f w7 hG hp hl
          have hE : Ext wr w7 := hG
          have hS := hE.size
          have q55 : f 11 = .bool true := tellV hp 0 11 rfl rfl (fun h => by cases h)
          have q59 : f 15 = .bool true := tellV hp 1 15 rfl rfl (fun h => by cases h)
          simp only [OpGoal]
          go_simp
          exact ⟨_, rfl, Ext.refl _, rfl⟩
        case o17 =>
          intro f w7 hG hp hl
          have hE : Ext wr w7 := hG
          have hS := hE.size
          have q60 : f 16 = .bool true := tellV hp 0 16 rfl rfl (fun h => by cases h)
          simp only [OpGoal]
          go_simp
          exact ⟨_, rfl, Ext.refl _, rfl⟩
      · intro f w7 hG hp
        have hE : Ext wr w7 := ChgS.nil hG
        have q6 : f 17 = .bool true := endV hp 17 (by decide) rfl (fun h => by cases h)
        try simp only [q6]
        clear hp
        go_wp2
        go_ret
        exact ⟨rfl, ER.trans hE⟩
    · have hlt : c < 10 := by omega
      have z1 : szQ (getV L c) ≤ 211 := by
        have := sz_get TV.out.szs c
        omega
      have z2 : szQ (getV M c) ≤ 211 := by
        have := sz_get TU.out.szs c
        omega
      have hcc : c + 1 = ((i + 1 : Nat) : Int) - 1 := by omega
      have HCC := Lib.hid hcc
      have hc9 : (11 - (i + 1) < 11 - i) := by omega
      have hc1 : -1 ≤ c := by omega
      clear hc hcc
      go_wp2_with fail
      refine wp_region_puts [] [PP.val (v6), PP.val (.int .i64 c), PP.frQ (a * getV L c + getV M c), PP.val (.agg #[.bool ba, .slice ad n1 cap, .slice ad2 n2 cap2]), PP.val (.slice adv nv capv), PP.val (.int .i64 c), PP.frQ (getV L c), PP.frQ (a * getV L c), PP.val (.slice adu nu capu), PP.val (.int .i64 c), PP.frQ (getV M c), PP.frQ (a * getV L c + getV M c), PP.val (.bool true), PP.val (.bool false)] [] [0, 1, 2, 3, 4, 5, 6, 7, 8, 9, 10, 11, 12, 13]
        (by kernel_rfl) (by kernel_rfl) (fun f => (by simp only [fillR, fillL, List.setIfInBounds_toArray, List.set_cons_succ, List.set_cons_zero, Nat.reduceAdd]; rfl)) ?_ ?_ ?_ ?_ ?_
      · intro x hx; cases hx
      · intro x hx; cases hx
      · intro x hx; cases hx
      · refine ⟨?o0, ?o1, ?o2, ?o3, ?o4, ?o5, ?o6, ?o7, ?o8, ?o9, ?o10, ?o11, ?o12, ?o13, trivial⟩
        case o0 =>
          intro f w7 hG hp hl
          have hE : Ext wr w7 := hG
          have hS := hE.size
          simp only [OpGoal]
          go_simp
          exact ⟨_, rfl, Ext.refl _, rfl⟩
        case o1 =>
          intro f w7 hG hp hl
          have hE : Ext wr w7 := hG
          have hS := hE.size
          simp only [OpGoal]
          go_simp
          exact ⟨_, rfl, Ext.refl _, rfl⟩
        case o2 =>
          intro f w7 hG hp hl
          have hE : Ext wr w7 := hG
          have hS := hE.size
          have q30 : f 0 = v6 := tellV hp 0 0 rfl rfl (fun h => by cases h)
          have q31 : f 1 = .int .i64 c := tellV hp 1 1 rfl rfl (fun h => by cases h)
          change OpGoal _ _ _ f w7 Ext _
          refine og_call (P := Try.prog) _ _ _ #[f 0, f 1] Try.func56 (by kernel_rfl) (by kernel_rfl) rfl rfl (by kernel_rfl) ?_
          rw [q30, q31]
          refine (vget_calls 780 _ c (mkV (M ++ scV a L)) _ ((TR.out.ext hE).tl (by omega)) (by omega)).mono ?_
          rintro e w' ⟨v', rfl, h1, h3, h2⟩
          rw [gets] at h1
          exact ⟨v', rfl, h2, h1.mono hS⟩
        case o3 =>
          intro f w7 hG hp hl
          have hE : Ext wr w7 := hG
          have hS := hE.size
          change OpGoal _ _ _ f w7 Ext _
          exact og_load (P := Try.prog) _ _ w.heap.size _ _ _ rfl rfl rfl (BR.ext hE) Try.underlying28 rfl (by kernel_rfl) rfl
        case o4 =>
          intro f w7 hG hp hl
          have hE : Ext wr w7 := hG
          have hS := hE.size
          simp only [OpGoal]
          go_simp
          exact ⟨_, rfl, Ext.refl _, rfl⟩
        case o5 =>
          intro f w7 hG hp hl
          have hE : Ext wr w7 := hG
          have hS := hE.size
          simp only [OpGoal]
          go_simp
          exact ⟨_, rfl, Ext.refl _, rfl⟩
        case o6 =>
          intro f w7 hG hp hl
          have hE : Ext wr w7 := hG
          have hS := hE.size
          have q34 : f 4 = .slice adv nv capv := tellV hp 0 4 rfl rfl (fun h => by cases h)
          have q35 : f 5 = .int .i64 c := tellV hp 1 5 rfl rfl (fun h => by cases h)
          change OpGoal _ _ _ f w7 Ext _
          refine og_call (P := Try.prog) _ _ _ #[f 4, f 5] Try.func56 (by kernel_rfl) (by kernel_rfl) rfl rfl (by kernel_rfl) ?_
          rw [q34, q35]
          refine (vget_calls 6 _ c L _ (TV.out.ext (ER.trans hE)) (by omega)).mono ?_
          rintro e w' ⟨v', rfl, h1, h3, h2⟩
          exact ⟨v', rfl, h2, h1.mono hS⟩
        case o7 =>
          intro f w7 hG hp hl
          have hE : Ext wr w7 := hG
          have hS := hE.size
          have q33 : f 3 = .agg #[.bool ba, .slice ad n1 cap, .slice ad2 n2 cap2] := tellV hp 0 3 rfl rfl (fun h => by cases h)
          have q36 := tellV hp 1 6 rfl rfl (fun _ => hE)
          change OpGoal _ _ _ f w7 Ext _
          refine og_call (P := Try.prog) _ _ _ #[f 3, f 6] Try.func43 (by kernel_rfl) (by kernel_rfl) rfl rfl (by kernel_rfl) ?_
          rw [q33]
          refine (rmul_calls _ _ a (getV L c) 6 211 _ (RA.out.ext (ER.trans hE)) (q36.isR z1 (by omega)) (by omega)).mono ?_
          rintro e w' ⟨v', rfl, h1, h3, h2⟩
          exact ⟨v', rfl, h2, h1.mono hS⟩
        case o8 =>
          intro f w7 hG hp hl
          have hE : Ext wr w7 := hG
          have hS := hE.size
          simp only [OpGoal]
          go_simp
          exact ⟨_, rfl, Ext.refl _, rfl⟩
        case o9 =>
          intro f w7 hG hp hl
          have hE : Ext wr w7 := hG
          have hS := hE.size
          simp only [OpGoal]
          go_simp
          exact ⟨_, rfl, Ext.refl _, rfl⟩
        case o10 =>
          intro f w7 hG hp hl
          have hE : Ext wr w7 := hG
          have hS := hE.size
          have q38 : f 8 = .slice adu nu capu := tellV hp 0 8 rfl rfl (fun h => by cases h)
          have q39 : f 9 = .int .i64 c := tellV hp 1 9 rfl rfl (fun h => by cases h)
          change OpGoal _ _ _ f w7 Ext _
          refine og_call (P := Try.prog) _ _ _ #[f 8, f 9] Try.func56 (by kernel_rfl) (by kernel_rfl) rfl rfl (by kernel_rfl) ?_
          rw [q38, q39]
          refine (vget_calls 6 _ c M _ (TU.out.ext (ER.trans hE)) (by omega)).mono ?_
          rintro e w' ⟨v', rfl, h1, h3, h2⟩
          exact ⟨v', rfl, h2, h1.mono hS⟩
        case o11 =>
          intro f w7 hG hp hl
          have hE : Ext wr w7 := hG
          have hS := hE.size
          have q37 := tellV hp 0 7 rfl rfl (fun _ => hE)
          have q40 := tellV hp 1 10 rfl rfl (fun _ => hE)
          change OpGoal _ _ _ f w7 Ext _
          refine og_call (P := Try.prog) _ _ _ #[f 7, f 10] Try.func41 (by kernel_rfl) (by kernel_rfl) rfl rfl (by kernel_rfl) ?_
          refine (radd_calls _ _ (a * getV L c) (getV M c) 217 211 _ (q37.isR (by have := szQ_mul zA z1; omega) (by omega)) (q40.isR z2 (by omega)) (by omega)).mono ?_
          rintro e w' ⟨v', rfl, h1, h3, h2⟩
          exact ⟨v', rfl, h2, h1.mono hS⟩
        case o12 =>
          intro f w7 hG hp hl
          have hE : Ext wr w7 := hG
          have hS := hE.size
          have q32 := tellV hp 0 2 rfl rfl (fun _ => hE)
          have q41 := tellV hp 1 11 rfl rfl (fun _ => hE)
          change OpGoal _ _ _ f w7 Ext _
          refine og_call (P := Try.prog) _ _ _ #[f 2, f 11] Try.func16 (by kernel_rfl) (by kernel_rfl) rfl rfl (by kernel_rfl) ?_
          refine (same_true _ _ _ _ _ _ q32 q41).mono ?_
          rintro e w' ⟨rfl, h2⟩
          exact ⟨_, rfl, h2, rfl⟩
        case o13 =>
          intro f w7 hG hp hl
          have hE : Ext wr w7 := hG
          have hS := hE.size
          have q42 : f 12 = .bool true := tellV hp 0 12 rfl rfl (fun h => by cases h)
          simp only [OpGoal]
          go_simp
          exact ⟨_, rfl, Ext.refl _, rfl⟩
      · intro f w7 hG hp
        have hE : Ext wr w7 := ChgS.nil hG
        have q43 : f 13 = .bool false := endV hp 13 (by decide) rfl (fun h => by cases h)
        try simp only [q43]
        clear hp
        go_wp2
        go_roundw
        case rel => exact ⟨i + 1, by omega, by rw [HCC.out], hE0.trans hE⟩
        case measure => simp [intOf]; omega
end Go.Proofs.Ytoodekggpbbogaa
