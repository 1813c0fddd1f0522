/-
  The law VecSums.
-/
import Derived.Test.YtoodekggpbbogaaGreatVrgT
import Derived.Test.YtoodekggpbbogaaGreatVrfT
namespace Go.Proofs.YtoodekggpbbogaaGreat
open Go.RowKit
set_option linter.unusedVariables false
set_option linter.unusedSimpArgs false

set_option maxRecDepth 100000 in
set_option maxHeartbeats 8000000 in
theorem vecSums_calls (av v u : Value) (ea : RE) (l m : List TE) (w : World) (ha : RawE w av ea) (hv : TLE w v l) (hu : TLE w u m) :
    Calls Tryz.prog 5 #[av, v, u] w fun e w' => e = .returned (.bool true) ∧ Ext w w' := by
  obtain ⟨ba, xa, ya⟩ := ea
  have HA := Lib.hid ha
  have HV := Lib.hid hv
  have HU := Lib.hid hu
  obtain ⟨ad, n1, cap, ad2, n2, cap2, hn1, hn2, rfl⟩ := ha.1.opn2
  obtain ⟨adv, nv, capv, hnv, rfl, hnv1, -⟩ := hv.at
  obtain ⟨adu, nu, capu, hnu, rfl, hnu1, -⟩ := hu.at
  have Hn1 := Lib.hid hn1
  have Hn2 := Lib.hid hn2
  clear ha hv hu hn1 hn2 hnv hnu
  have lim : (100000 : Nat) ≤ LIM := by rw [LIM_eq]; omega
  go_enter Tryz.func5, Tryz.ntmps5
  obtain ⟨w1, hw1, e1, b1, s1⟩ := alloc1 w #[.bool ba, .slice ad n1 cap, .slice ad2 n2 cap2] 30
  go_wp2_with fail
  rw [← hw1]
  refine (speaks5_calls _).mono ?_
  rintro e w2 ⟨rfl, e2⟩
  have E2 := e1.trans e2
  clear hw1
  go_wp2_with fail
  refine (great_calls _ l w2 (HV.out.ext E2)).mono ?_
  rintro e w3 ⟨rfl, e3⟩
  obtain ⟨p, hp⟩ : ∃ p, p = greatV l := ⟨_, rfl⟩
  rw [← hp]
  have HP := Lib.hid hp
  clear hp
  cases p with
  | true =>
    go_wp2
    go_ret
    exact ⟨rfl, E2.trans e3⟩
  | false =>
  have E3 := E2.trans e3
  go_wp2_with fail
  refine (great_calls _ m w3 (HU.out.ext E3)).mono ?_
  rintro e w4 ⟨rfl, e4⟩
  obtain ⟨q, hq⟩ : ∃ q, q = greatV m := ⟨_, rfl⟩
  rw [← hq]
  have HQ := Lib.hid hq
  clear hq
  cases q with
  | true =>
    go_wp2
    go_ret
    exact ⟨rfl, E3.trans e4⟩
  | false =>
  have E4 := E3.trans e4
  have hs4 : w.heap.size + 1 ≤ w4.heap.size := by
    have := (e2.trans (e3.trans e4)).size
    omega
  have B4 := ((b1.ext e2).ext e3).ext e4
  have hc0 := B4.cell 0
  have hc1 := B4.cell 1
  have hc2 := B4.cell 2
  clear b1 e2 e3 e4
  go_wp2_with fail
  refine (rqwords3_calls _ ba xa ya _ (HA.out.1.ext E4) HA.out.2.2.2).mono ?_
  rw [← Hn1.out, ← Hn2.out]
  rintro e w5 ⟨rfl, e5⟩
  clear hc0 hc1 hc2
  have E5 := E4.trans e5
  by_cases hg : 6 < n1 + n2
  · have hg' : (6 : Int) < ((n1 + n2 : Nat) : Int) := by omega
    go_wp2
    go_ret
    exact ⟨rfl, E5⟩
  have hg' : ¬ (6 : Int) < ((n1 + n2 : Nat) : Int) := by omega
  have X1 : xa.length ≤ 6 := by rw [← Hn1.out]; omega
  have X2 : ya.length ≤ 6 := by rw [← Hn2.out]; omega
  have B5 := B4.ext e5
  have hs5 : w.heap.size + 1 ≤ w5.heap.size := Nat.le_trans hs4 e5.size
  obtain ⟨a, hae⟩ : ∃ a, a = rawR ba xa ya := ⟨_, rfl⟩
  have RA := Lib.hid (show IsR w (.agg #[.bool ba, .slice ad n1 cap, .slice ad2 n2 cap2]) a 6 from by rw [hae]; exact HA.out.1.isR HA.out.2.1 HA.out.2.2.1 6 X1 X2 (by omega) (by omega))
  obtain ⟨L, hL⟩ : ∃ L : List (Int × Rat), L = l.map fun e => (e.1, ratE e.2) := ⟨_, rfl⟩
  obtain ⟨M, hM⟩ : ∃ M : List (Int × Rat), M = m.map fun e => (e.1, ratE e.2) := ⟨_, rfl⟩
  have TV := Lib.hid (show TL 6 w (.slice adv nv capv) L from by rw [hL]; exact HV.out.tl 6 (by omega) (by omega) fun e he => (greatE_not HP.out.symm).2 e.2 (List.mem_map_of_mem he))
  have TU := Lib.hid (show TL 6 w (.slice adu nu capu) M from by rw [hM]; exact HU.out.tl 6 (by omega) (by omega) fun e he => (greatE_not HQ.out.symm).2 e.2 (List.mem_map_of_mem he))
  have hLl : L.length ≤ 30 := by rw [hL, List.length_map]; have := (greatE_not HP.out.symm).1; rwa [List.length_map] at this
  have hMl : M.length ≤ 30 := by rw [hM, List.length_map]; have := (greatE_not HQ.out.symm).1; rwa [List.length_map] at this
  clear E2 E3 E4 e1 s1
  have hWl : ∀ e ∈ l, wordsE e.2 ≤ 6 := fun e he => (greatE_not HP.out.symm).2 e.2 (List.mem_map_of_mem he)
  have hWm : ∀ e ∈ m, wordsE e.2 ≤ 6 := fun e he => (greatE_not HQ.out.symm).2 e.2 (List.mem_map_of_mem he)
  have hll : l.length ≤ 30 := by rw [hL, List.length_map] at hLl; exact hLl
  have hml : m.length ≤ 30 := by rw [hM, List.length_map] at hMl; exact hMl
  have HWL := Lib.hid hWl
  have HWM := Lib.hid hWm
  have HAE := Lib.hid hae
  have HL := Lib.hid hL
  have HM := Lib.hid hM
  have HA2 := Lib.hid (And.intro X1 X2)
  have hm60 : (mkV (M ++ scV a L)).length ≤ 60 := by
    have := mkV_len (M ++ scV a L)
    rw [List.length_append, scV_len] at this
    omega
  have hd0 := B5.cell 0
  have hd1 := B5.cell 1
  have hd2 := B5.cell 2
  clear hae hL hM X1 X2 hWl hWm HP HQ
  go_wp2_with fail
  refine (rqcopy3_calls _ ba xa ya w5 (HA.out.1.ext E5) (by have := HA2.out; omega) (by have := HA2.out; omega)).mono ?_
  rintro e w6 ⟨v6, rfl, r6, e6⟩
  obtain ⟨a6, l6, k6, a6', l6', k6', rfl, r6⟩ := r6.opn
  clear hd0 hd1 hd2
  go_wp2_with fail
  refine (copy5_calls _ l w6 (HV.out.ext (E5.trans e6)) (by omega) HWL.out).mono ?_
  rintro e w7 ⟨v7, rfl, t7, e7⟩
  go_wp2_with fail
  refine (copy5_calls _ m w7 (HU.out.ext ((E5.trans e6).trans e7)) (by omega) HWM.out).mono ?_
  rintro e w8 ⟨v8, rfl, t8, e8⟩
  obtain ⟨w9, hw9, e9, b9, s9⟩ := alloc1 w8 #[.bool ba, .slice a6 l6 k6, .slice a6' l6' k6'] 30
  have R9 := Lib.hid (r6.raw.ext ((e7.trans e8).trans e9))
  have T7 := Lib.hid (t7.ext (e8.trans e9))
  have T8 := Lib.hid (t8.ext e9)
  have E9 := (((E5.trans e6).trans e7).trans e8).trans e9
  have RK := Lib.hid (show IsR w9 (.agg #[.bool ba, .slice a6 l6 k6, .slice a6' l6' k6']) a 6 from by rw [HAE.out]; exact R9.out.isR HA.out.2.1 HA.out.2.2.1 6 HA2.out.1 HA2.out.2 (by omega) (by omega))
  have TX := Lib.hid (show TL 6 w9 v7 L from by rw [HL.out]; exact T7.out.tl 6 (by omega) (by omega) HWL.out)
  have TY := Lib.hid (show TL 6 w9 v8 M from by rw [HM.out]; exact T8.out.tl 6 (by omega) (by omega) HWM.out)
  have B9 := (((B5.ext e6).ext e7).ext e8).ext e9
  clear r6 t7 t8 s9 e6 e7 e8 e9 B5
  go_wp2_with fail
  rw [← hw9]
  clear hw9
  refine wp_region_puts [] [PP.val (.agg #[.bool ba, .slice a6 l6 k6, .slice a6' l6' k6']), PP.val (v7), PP.val (v8), PP.tO 780 (mkV (M ++ scV a L)), PP.val (.agg #[.bool ba, .slice a6 l6 k6, .slice a6' l6' k6']), PP.val (v7), PP.tO 390 (mkV ([] ++ scV a L)), PP.tO 780 (mkV (M ++ scV a L)), PP.tO 390 (mkV ([] ++ scV a L))] [] [0, 1, 2, 3, 4, 5, 6, 7, 8]
    (by kernel_rfl) (by kernel_rfl) (fun f => (by simp only [fillR, fillL, List.setIfInBounds_toArray, List.set_cons_succ, List.set_cons_zero, Nat.reduceAdd]; rfl)) ?_ ?_ ?_ ?_ ?_
  · intro x hx; cases hx
  · intro x hx; cases hx
  · intro x hx; cases hx
  · refine ⟨?o0, ?o1, ?o2, ?o3, ?o4, ?o5, ?o6, ?o7, ?o8, trivial⟩
    case o0 =>
      intro f wA hG hp hl
      have hE : Ext w9 wA := hG
      have hS := hE.size
      change OpGoal _ _ _ f wA Ext _
      exact og_load (P := Tryz.prog) _ _ w8.heap.size _ _ _ rfl rfl rfl (b9.ext hE) Tryz.underlying30 rfl (by kernel_rfl) rfl
    case o1 =>
      intro f wA hG hp hl
      have hE : Ext w9 wA := hG
      have hS := hE.size
      simp only [OpGoal]
      go_simp
      exact ⟨_, rfl, Ext.refl _, rfl⟩
    case o2 =>
      intro f wA hG hp hl
      have hE : Ext w9 wA := hG
      have hS := hE.size
      simp only [OpGoal]
      go_simp
      exact ⟨_, rfl, Ext.refl _, rfl⟩
    case o3 =>
      intro f wA hG hp hl
      have hE : Ext w9 wA := hG
      have hS := hE.size
      have q31 : f 0 = .agg #[.bool ba, .slice a6 l6 k6, .slice a6' l6' k6'] := tellV hp 0 0 rfl rfl (fun h => by cases h)
      have q32 : f 1 = v7 := tellV hp 1 1 rfl rfl (fun h => by cases h)
      have q33 : f 2 = v8 := tellV hp 2 2 rfl rfl (fun h => by cases h)
      change OpGoal _ _ _ f wA Ext _
      refine og_call (P := Tryz.prog) _ _ _ #[f 0, f 1, f 2] Tryz.func27 (by kernel_rfl) (by kernel_rfl) rfl rfl (by kernel_rfl) ?_
      rw [q31, q32, q33]
      refine (vaxpy_calls 6 6 6 12 _ _ _ a L M _ (RK.out.ext hE) (TX.out.ext hE) (TY.out.ext hE) (by omega) (by omega) (by omega) (by omega)).mono ?_
      rintro e w' ⟨v', rfl, h1, h2⟩
      exact ⟨v', rfl, h2, (h1.le (by omega)).mono hS⟩
    case o4 =>
      intro f wA hG hp hl
      have hE : Ext w9 wA := hG
      have hS := hE.size
      change OpGoal _ _ _ f wA Ext _
      exact og_load (P := Tryz.prog) _ _ w8.heap.size _ _ _ rfl rfl rfl (b9.ext hE) Tryz.underlying30 rfl (by kernel_rfl) rfl
    case o5 =>
      intro f wA hG hp hl
      have hE : Ext w9 wA := hG
      have hS := hE.size
      simp only [OpGoal]
      go_simp
      exact ⟨_, rfl, Ext.refl _, rfl⟩
    case o6 =>
      intro f wA hG hp hl
      have hE : Ext w9 wA := hG
      have hS := hE.size
      have q35 : f 4 = .agg #[.bool ba, .slice a6 l6 k6, .slice a6' l6' k6'] := tellV hp 0 4 rfl rfl (fun h => by cases h)
      have q36 : f 5 = v7 := tellV hp 1 5 rfl rfl (fun h => by cases h)
      change OpGoal _ _ _ f wA Ext _
      refine og_call (P := Tryz.prog) _ _ _ #[f 4, f 5] Tryz.func28 (by kernel_rfl) (by kernel_rfl) rfl rfl (by kernel_rfl) ?_
      rw [q35, q36]
      refine (vscale_calls 6 6 12 _ _ a L _ (RK.out.ext hE) (TX.out.ext hE) (by omega) (by omega) (by omega)).mono ?_
      rintro e w' ⟨v', rfl, h1, h2⟩
      exact ⟨v', rfl, h2, (h1.le (by omega)).mono hS⟩
    case o7 =>
      intro f wA hG hp hl
      have hE : Ext w9 wA := hG
      have hS := hE.size
      have q34 := tellV hp 0 3 rfl rfl (fun _ => hE)
      exact ⟨_, rfl, Ext.refl _, q34⟩
    case o8 =>
      intro f wA hG hp hl
      have hE : Ext w9 wA := hG
      have hS := hE.size
      have q37 := tellV hp 0 6 rfl rfl (fun _ => hE)
      exact ⟨_, rfl, Ext.refl _, q37⟩
  · intro f wA hG hp
    have hE : Ext w9 wA := ChgS.nil hG
    have q10 := endV hp 7 (by decide) rfl (fun _ => hE)
    have q11 := endV hp 8 (by decide) rfl (fun _ => hE)
    clear hp
    have TS := Lib.hid (show TO w9.heap.size 780 wA _ (mkV (M ++ scV a L)) from q10)
    have TT := Lib.hid (show TO w9.heap.size 390 wA _ (mkV ([] ++ scV a L)) from q11)
    have EA := E9.trans hE
    have BA := B9.ext hE
    have hd0 := BA.cell 0
    have hd1 := BA.cell 1
    have hd2 := BA.cell 2
    clear q10 q11
    go_wp2_with fail
    refine (axpy5_calls 6 12 _ _ _ a L M wA (RA.out.ext EA) (TV.out.ext EA) (TU.out.ext EA) (by omega) (by omega) (by omega)).mono ?_
    rintro e wB ⟨vB, rfl, tB, eB⟩
    have TB := Lib.hid (tB.le (show _ ≤ 781 by omega))
    clear tB hd0 hd1 hd2
    go_wp2_with fail
    refine (all_true _ _ _ wB ((TS.out.ext eB).tle (by omega)) (TB.out.tle (by omega))).mono ?_
    rintro e wC ⟨rfl, eC⟩
    have EC := (EA.trans eB).trans eC
    have BC := (BA.ext eB).ext eC
    have hd0 := BC.cell 0
    have hd1 := BC.cell 1
    have hd2 := BC.cell 2
    clear TB BA
    go_wp2_with fail
    refine (axpy5_calls 6 12 _ _ _ a L [] wC (RA.out.ext EC) (TV.out.ext EC) (TL.none _ _ _ (by omega)) (by omega) (by omega) (by simp; omega)).mono ?_
    rintro e wD ⟨vD, rfl, tD, eD⟩
    have TD := Lib.hid (tD.le (show _ ≤ 391 by simp; omega))
    clear tD hd0 hd1 hd2
    go_wp2_with fail
    refine (all_true _ _ _ wD ((TT.out.ext ((eB.trans eC).trans eD)).tle (by omega)) (TD.out.tle (by omega))).mono ?_
    rintro e wE ⟨rfl, eE⟩
    have E9E := (((hE.trans eB).trans eC).trans eD).trans eE
    have SE := Lib.hid (TS.out.sp.ext (((eB.trans eC).trans eD).trans eE))
    have SF := Lib.hid (TT.out.sp.ext (((eB.trans eC).trans eD).trans eE))
    have BE := (BC.ext eD).ext eE
    have bE := b9.ext E9E
    clear TD TS TT BC eB eC eD eE hE EA EC
    go_wp2_with fail
    refine (spoil5_calls _ _ wE SE.out).mono ?_
    rintro e wF ⟨rfl, hF⟩
    have SF2 := Lib.hid (SF.out.hurtV hF)
    clear SE SF
    go_wp2_with fail
    refine (spoil5_calls _ _ wF SF2.out).mono ?_
    rintro e wG ⟨rfl, hG⟩
    have hV := hF.trans hG
    have E9G := E9E.hurtV hV (Nat.le_refl _)
    have EG := E9.trans E9G
    have BG := B9.ext E9G
    have bG := b9.ext E9G
    have hd0 := BG.cell 0
    have hd1 := BG.cell 1
    have hd2 := BG.cell 2
    have hg0 := bG.cell 0
    have hg1 := bG.cell 1
    have hg2 := bG.cell 2
    clear SF2 hF hG hV BE bE B9 b9
    go_wp2_with fail
    refine (rqsame3_calls _ _ ba ba xa ya xa ya wG (R9.out.ext E9G) (HA.out.1.ext EG)).mono ?_
    rintro e wH ⟨rfl, eH⟩
    have hT : (decide ((ba = ba ∧ xa = xa) ∧ ya = ya)) = true := by simp
    rw [hT]
    clear hT hd0 hd1 hd2 hg0 hg1 hg2
    go_wp2_with fail
    refine (all_true _ _ l wH (T7.out.ext (E9G.trans eH)) (HV.out.ext (EG.trans eH))).mono ?_
    rintro e wI ⟨rfl, eI⟩
    go_wp2_with fail
    refine (all_true _ _ m wI (T8.out.ext ((E9G.trans eH).trans eI)) (HU.out.ext ((EG.trans eH).trans eI))).mono ?_
    rintro e wJ ⟨rfl, eJ⟩
    go_wp2
    go_ret
    exact ⟨rfl, ((EG.trans eH).trans eI).trans eJ⟩
end Go.Proofs.YtoodekggpbbogaaGreat
