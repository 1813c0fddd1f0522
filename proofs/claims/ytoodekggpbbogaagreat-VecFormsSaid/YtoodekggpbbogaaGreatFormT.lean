/-
  The law VecForms.
-/
import Derived.Test.YtoodekggpbbogaaGreatVrfT
namespace Go.Proofs.YtoodekggpbbogaaGreat
open Go.RowKit
set_option linter.unusedVariables false
set_option linter.unusedSimpArgs false

set_option maxRecDepth 100000 in
set_option maxHeartbeats 8000000 in
theorem vecForms_calls (v : Value) (c : Int) (l : List TE) (w : World) (hv : TLE w v l) :
    Calls Tryz.prog 3 #[v, .int .i64 c] w fun e w' => e = .returned (.bool true) ∧ Ext w w' := by
  have lim : (100000 : Nat) ≤ LIM := by rw [LIM_eq]; omega
  have HV := Lib.hid hv
  clear hv
  go_enter Tryz.func3, Tryz.ntmps3
  go_wp2_with fail
  refine (speaks5_calls _).mono ?_
  rintro e w2 ⟨rfl, e2⟩
  go_wp2_with fail
  refine (great_calls _ l w2 (HV.out.ext e2)).mono ?_
  rintro e w3 ⟨rfl, e3⟩
  obtain ⟨p, hp⟩ : ∃ p, p = greatV l := ⟨_, rfl⟩
  rw [← hp]
  have HP := Lib.hid hp
  clear hp
  cases p with
  | true =>
    go_wp2
    go_ret
    exact ⟨rfl, e2.trans e3⟩
  | false =>
  have E3 := e2.trans e3
  obtain ⟨L, hL⟩ : ∃ L : List (Int × Rat), L = l.map fun e => (e.1, ratE e.2) := ⟨_, rfl⟩
  have hW : ∀ e ∈ l, wordsE e.2 ≤ 6 := fun e he => (greatE_not HP.out.symm).2 e.2 (List.mem_map_of_mem he)
  have hll : l.length ≤ 30 := by have := (greatE_not HP.out.symm).1; rwa [List.length_map] at this
  have hLl : L.length ≤ 30 := by rw [hL, List.length_map]; exact hll
  have TV := Lib.hid (show TL 6 w v L from by rw [hL]; exact HV.out.tl 6 (by omega) (by omega) hW)
  have HW := Lib.hid hW
  have HL := Lib.hid hL
  clear e2 e3 hW hL
  go_wp2_with fail
  refine (copy5_calls _ l w3 (HV.out.ext E3) (by omega) HW.out).mono ?_
  rintro e w4 ⟨v4, rfl, hin, e4⟩
  have HIN := Lib.hid hin
  have TI := Lib.hid (show TL 6 w4 v4 L from by rw [HL.out]; exact hin.tl 6 (by omega) (by omega) HW.out)
  have E4 := E3.trans e4
  clear hin e4
  go_wp2_with fail
  refine (vmake_calls 6 _ L w4 TI.out (by omega) (by omega)).mono ?_
  rintro e w5 ⟨v5, rfl, t5, e5⟩
  have T5 := Lib.hid (t5.le (show _ ≤ 210 by omega))
  clear t5
  go_wp2_with fail
  refine (vget_calls 6 _ c L w5 (TI.out.ext e5) (by omega)).mono ?_
  rintro e w6 ⟨v6, rfl, q6, z6, e6⟩
  obtain ⟨b6, a6, l6, k6, a6', l6', k6', rfl, q6⟩ := q6.opn
  obtain ⟨w7, hw7, e7, b7, s7⟩ := alloc1 w6 #[.bool b6, .slice a6 l6 k6, .slice a6' l6' k6'] 30
  have Q7 := Lib.hid (q6.ext e7)
  have E47 := (e5.trans e6).trans e7
  have E7 := E4.trans E47
  have T7 := Lib.hid (T5.out.ext (e6.trans e7))
  have hs5 := e5.size
  clear q6 z6 s7 e5 e6 e7 T5
  go_wp2_with fail
  rw [← hw7]
  clear hw7
  refine wp_region_puts [] [PP.val (v5), PP.val (v), PP.tO 211 (mkV L), PP.val (.bool true), PP.val (.bool false), PP.val (.bool false), PP.val (.agg #[.bool b6, .slice a6 l6 k6, .slice a6' l6' k6']), PP.val (v), PP.val (.int .i64 c), PP.frQd (getV L c), PP.frQ (getV L c), PP.val (.bool true), PP.val (.bool false), PP.val (.bool false)] [] [0, 1, 2, 3, 4, 5, 6, 7, 8, 9, 10, 11, 12, 13]
    (by kernel_rfl) (by kernel_rfl) (fun f => (by simp only [fillR, fillL, List.setIfInBounds_toArray, List.set_cons_succ, List.set_cons_zero, Nat.reduceAdd]; rfl)) ?_ ?_ ?_ ?_ ?_
  · intro x hx; cases hx
  · intro x hx; cases hx
  · intro x hx; cases hx
  · refine ⟨?o0, ?o1, ?o2, ?o3, ?o4, ?o5, ?o6, ?o7, ?o8, ?o9, ?o10, ?o11, ?o12, ?o13, trivial⟩
    case o0 =>
      intro f w8 hG hp hl
      have hE : Ext w7 w8 := hG
      have hS := hE.size
      simp only [OpGoal]
      go_simp
      exact ⟨_, rfl, Ext.refl _, rfl⟩
    case o1 =>
      intro f w8 hG hp hl
      have hE : Ext w7 w8 := hG
      have hS := hE.size
      simp only [OpGoal]
      go_simp
      exact ⟨_, rfl, Ext.refl _, rfl⟩
    case o2 =>
      intro f w8 hG hp hl
      have hE : Ext w7 w8 := hG
      have hS := hE.size
      have q20 : f 1 = v := tellV hp 0 1 rfl rfl (fun h => by cases h)
      change OpGoal _ _ _ f w8 Ext _
      refine og_call (P := Tryz.prog) _ _ _ #[f 1] Tryz.func13 (by kernel_rfl) (by kernel_rfl) rfl rfl (by kernel_rfl) ?_
      rw [q20]
      refine (make5_calls 6 _ L _ (TV.out.ext (E7.trans hE)) (by omega) (by omega)).mono ?_
      rintro e w' ⟨v', rfl, h1, h2⟩
      exact ⟨v', rfl, h2, (h1.le (by omega)).mono hS⟩
    case o3 =>
      intro f w8 hG hp hl
      have hE : Ext w7 w8 := hG
      have hS := hE.size
      have q19 : f 0 = v5 := tellV hp 0 0 rfl rfl (fun h => by cases h)
      have q21 := tellV hp 1 2 rfl rfl (fun _ => hE)
      change OpGoal _ _ _ f w8 Ext _
      refine og_call (P := Tryz.prog) _ _ _ #[f 0, f 2] Tryz.func12 (by kernel_rfl) (by kernel_rfl) rfl rfl (by kernel_rfl) ?_
      rw [q19]
      refine (all_true _ _ _ _ ((T7.out.ext hE).tle (by omega)) (q21.tle (by omega))).mono ?_
      rintro e w' ⟨rfl, h2⟩
      exact ⟨_, rfl, h2, rfl⟩
    case o4 =>
      intro f w8 hG hp hl
      have hE : Ext w7 w8 := hG
      have hS := hE.size
      have q22 : f 3 = .bool true := tellV hp 0 3 rfl rfl (fun h => by cases h)
      simp only [OpGoal]
      go_simp
      exact ⟨_, rfl, Ext.refl _, rfl⟩
    case o5 =>
      intro f w8 hG hp hl
      have hE : Ext w7 w8 := hG
      have hS := hE.size
      have q23 : f 4 = .bool false := tellV hp 0 4 rfl rfl (fun h => by cases h)
      simp only [OpGoal]
      go_simp
      exact ⟨_, rfl, Ext.refl _, rfl⟩
    case o6 =>
      intro f w8 hG hp hl
      have hE : Ext w7 w8 := hG
      have hS := hE.size
      have qg : f 5 = .bool false := tellV hp 0 5 rfl rfl (fun h => by cases h)
      change OpGoal _ _ _ f w8 Ext _
      refine og_guard (j := 5) (want := false) rfl qg ?_
      change OpGoal _ _ _ f w8 Ext _
      exact og_load (P := Tryz.prog) _ _ w6.heap.size _ _ _ rfl rfl rfl (b7.ext hE) Tryz.underlying30 rfl (by kernel_rfl) rfl
    case o7 =>
      intro f w8 hG hp hl
      have hE : Ext w7 w8 := hG
      have hS := hE.size
      have qg : f 5 = .bool false := tellV hp 0 5 rfl rfl (fun h => by cases h)
      change OpGoal _ _ _ f w8 Ext _
      refine og_guard (j := 5) (want := false) rfl qg ?_
      simp only [OpGoal]
      go_simp
      exact ⟨_, rfl, Ext.refl _, rfl⟩
    case o8 =>
      intro f w8 hG hp hl
      have hE : Ext w7 w8 := hG
      have hS := hE.size
      have qg : f 5 = .bool false := tellV hp 0 5 rfl rfl (fun h => by cases h)
      change OpGoal _ _ _ f w8 Ext _
      refine og_guard (j := 5) (want := false) rfl qg ?_
      simp only [OpGoal]
      go_simp
      exact ⟨_, rfl, Ext.refl _, rfl⟩
    case o9 =>
      intro f w8 hG hp hl
      have hE : Ext w7 w8 := hG
      have hS := hE.size
      have q26 : f 7 = v := tellV hp 0 7 rfl rfl (fun h => by cases h)
      have q27 : f 8 = .int .i64 c := tellV hp 1 8 rfl rfl (fun h => by cases h)
      have qg : f 5 = .bool false := tellV hp 2 5 rfl rfl (fun h => by cases h)
      change OpGoal _ _ _ f w8 Ext _
      refine og_guard (j := 5) (want := false) rfl qg ?_
      change OpGoal _ _ _ f w8 Ext _
      refine og_call (P := Tryz.prog) _ _ _ #[f 7, f 8] Tryz.func16 (by kernel_rfl) (by kernel_rfl) rfl rfl (by kernel_rfl) ?_
      rw [q26, q27]
      refine (get5_calls 6 _ c L _ (TV.out.ext (E7.trans hE)) (by omega) (by omega)).mono ?_
      rintro e w' ⟨v', rfl, h1, h3, h2⟩
      exact ⟨v', rfl, h2, h1.mono hS⟩
    case o10 =>
      intro f w8 hG hp hl
      have hE : Ext w7 w8 := hG
      have hS := hE.size
      have q28 := tellV hp 0 9 rfl rfl (fun _ => hE)
      have qg : f 5 = .bool false := tellV hp 2 5 rfl rfl (fun h => by cases h)
      change OpGoal _ _ _ f w8 Ext _
      refine og_guard (j := 5) (want := false) rfl qg ?_
      change OpGoal _ _ _ f w8 Ext _
      refine og_call (P := Tryz.prog) _ _ _ #[f 9] Tryz.func15 (by kernel_rfl) (by kernel_rfl) rfl rfl (by kernel_rfl) ?_
      refine (rqto3_calls _ _ _ q28.cq (by have := szD_of (sz_get TV.out.szs c); omega)).mono ?_
      rintro e w' ⟨v', rfl, h1, h2⟩
      exact ⟨v', rfl, h2, h1.mono hS⟩
    case o11 =>
      intro f w8 hG hp hl
      have hE : Ext w7 w8 := hG
      have hS := hE.size
      have q25 : f 6 = .agg #[.bool b6, .slice a6 l6 k6, .slice a6' l6' k6'] := tellV hp 0 6 rfl rfl (fun h => by cases h)
      have q29 := tellV hp 1 10 rfl rfl (fun _ => hE)
      have qg : f 5 = .bool false := tellV hp 3 5 rfl rfl (fun h => by cases h)
      change OpGoal _ _ _ f w8 Ext _
      refine og_guard (j := 5) (want := false) rfl qg ?_
      change OpGoal _ _ _ f w8 Ext _
      refine og_call (P := Tryz.prog) _ _ _ #[f 6, f 10] Tryz.func14 (by kernel_rfl) (by kernel_rfl) rfl rfl (by kernel_rfl) ?_
      rw [q25]
      refine (same_true _ _ _ _ _ _ (Q7.out.ext hE) q29).mono ?_
      rintro e w' ⟨rfl, h2⟩
      exact ⟨_, rfl, h2, rfl⟩
    case o12 =>
      intro f w8 hG hp hl
      have hE : Ext w7 w8 := hG
      have hS := hE.size
      have q30 : f 11 = .bool true := tellV hp 0 11 rfl rfl (fun h => by cases h)
      have qg : f 5 = .bool false := tellV hp 1 5 rfl rfl (fun h => by cases h)
      change OpGoal _ _ _ f w8 Ext _
      refine og_guard (j := 5) (want := false) rfl qg ?_
      simp only [OpGoal]
      go_simp
      exact ⟨_, rfl, Ext.refl _, rfl⟩
    case o13 =>
      intro f w8 hG hp hl
      have hE : Ext w7 w8 := hG
      have hS := hE.size
      have q24 : f 5 = .bool false := tellV hp 0 5 rfl rfl (fun h => by cases h)
      have q31 : f 12 = .bool false := tellV hp 1 12 rfl rfl (fun h => by cases h)
      simp only [OpGoal]
      go_simp
      exact ⟨_, rfl, Ext.refl _, rfl⟩
  · intro f w8 hG hp
    have hE : Ext w7 w8 := ChgS.nil hG
    have q32 : f 13 = .bool false := endV hp 13 (by decide) rfl (fun h => by cases h)
    try simp only [q32]
    clear hp
    have HTS := Lib.hid (T7.out.ext hE).sp
    have SQ := Lib.hid ((Q7.out.ext hE).shp)
    have b8 := b7.ext hE
    have E48 := E47.trans hE
    clear b7 E47 Q7 T7
    go_wp2_with fail
    refine (spoil5_calls _ _ w8 HTS.out).mono ?_
    rintro e w9 ⟨rfl, h9⟩
    have b9 := b8.hurtV h9 (by decide) (by decide)
    have SQ9 := Lib.hid (SQ.out.hurtV h9)
    have E49 := E48.hurtV h9 (Nat.le_refl _)
    have hd0 := b9.cell 0
    have hd1 := b9.cell 1
    have hd2 := b9.cell 2
    clear b8 h9 SQ
    go_wp2_with fail
    refine (spoil_calls _ _ w9 SQ9.out).mono ?_
    rintro e wA ⟨rfl, hA⟩
    have E4A := E49.hurtV hA.v hs5
    clear hd0 hd1 hd2 b9 hA E49 SQ9
    go_wp2_with fail
    refine (all_true _ _ l wA (HIN.out.ext E4A) (HV.out.ext (E4.trans E4A))).mono ?_
    rintro e wB ⟨rfl, eB⟩
    go_wp2
    go_ret
    exact ⟨rfl, (E4.trans E4A).trans eB⟩
end Go.Proofs.YtoodekggpbbogaaGreat
