/-
  The law VecDots.
-/
import Derived.Test.YtoodekggpbbogaaGreatVrgT
import Derived.Test.YtoodekggpbbogaaGreatVrfT
namespace Go.Proofs.YtoodekggpbbogaaGreat
open Go.RowKit
set_option linter.unusedVariables false
set_option linter.unusedSimpArgs false

set_option maxRecDepth 100000 in
set_option maxHeartbeats 8000000 in
theorem vecDots_calls (v u : Value) (l : List TE) (xl : List RE) (w : World) (hv : TLE w v l) (hu : SLQ w u xl) :
    Calls Tryz.prog 4 #[v, u] w fun e w' => e = .returned (.bool true) ∧ Ext w w' := by
  have lim : (100000 : Nat) ≤ LIM := by rw [LIM_eq]; omega
  have HV := Lib.hid hv
  have HU := Lib.hid hu
  obtain ⟨adu, nu, capu, hnu, rfl, hnu1, -⟩ := hu.at
  have HNU := Lib.hid hnu
  have eb := emptyT
  clear hv hu hnu
  go_enter Tryz.func4, Tryz.ntmps4
  go_wp2_with fail
  refine (speaks5_calls _).mono ?_
  rintro e w2 ⟨rfl, e2⟩
  go_wp2_with fail
  refine (great_calls _ l w2 (HV.out.ext e2)).mono ?_
  rintro e w3 ⟨rfl, e3⟩
  obtain ⟨p, hp⟩ : ∃ p, p = greatV l := ⟨_, rfl⟩
  rw [← hp]
  have HP := Lib.hid hp
  have E3 := e2.trans e3
  clear hp e2 e3
  cases p with
  | true =>
    go_wp2
    go_ret
    exact ⟨rfl, E3⟩
  | false =>
  go_wp2_with fail
  refine (greatAll_calls _ xl w3 (HU.out.ext E3)).mono ?_
  rintro e w4 ⟨rfl, e4⟩
  obtain ⟨q, hq⟩ : ∃ q, q = greatE xl := ⟨_, rfl⟩
  rw [← hq]
  have HQ := Lib.hid hq
  have E4 := E3.trans e4
  clear hq e4 E3
  cases q with
  | true =>
    go_wp2
    go_ret
    exact ⟨rfl, E4⟩
  | false =>
  obtain ⟨L, hL⟩ : ∃ L : List (Int × Rat), L = l.map fun e => (e.1, ratE e.2) := ⟨_, rfl⟩
  obtain ⟨X, hX⟩ : ∃ X : List Rat, X = xl.map ratE := ⟨_, rfl⟩
  have hWl : ∀ e ∈ l, wordsE e.2 ≤ 6 := fun e he => (greatE_not HP.out.symm).2 e.2 (List.mem_map_of_mem he)
  have hWx := (greatE_not HQ.out.symm).2
  have hll : l.length ≤ 30 := by have := (greatE_not HP.out.symm).1; rwa [List.length_map] at this
  have hxl : xl.length ≤ 30 := (greatE_not HQ.out.symm).1
  have hLl : L.length ≤ 30 := by rw [hL, List.length_map]; exact hll
  have hXn : X.length = nu := by rw [hX, List.length_map, HNU.out]
  have hn30 : nu ≤ 30 := by rw [HNU.out]; exact hxl
  have TV := Lib.hid (show TL 6 w v L from by rw [hL]; exact HV.out.tl 6 (by omega) (by omega) hWl)
  have TX := Lib.hid (show QL 6 w (.slice adu nu capu) X from by rw [hX]; exact HU.out.ql 6 (by omega) (by omega) hWx)
  have HWL := Lib.hid hWl
  have HWX := Lib.hid hWx
  have HL := Lib.hid hL
  have HX := Lib.hid hX
  have HXN := Lib.hid hXn
  clear hWl hWx hL hX hXn HP HQ
  go_wp2_with fail
  refine (copy5_calls _ l w4 (HV.out.ext E4) (by omega) HWL.out).mono ?_
  rintro e w5 ⟨v5, rfl, t5, e5⟩
  have T5 := Lib.hid t5
  have E5 := E4.trans e5
  clear t5 e5 E4
  go_wp2_with fail
  refine (copyAll_calls _ xl w5 (HU.out.ext E5) (by omega) HWX.out).mono ?_
  rintro e w6 ⟨v6, rfl, t6, e6⟩
  have T6 := Lib.hid t6
  have T5 := Lib.hid (T5.out.ext e6)
  have E6 := E5.trans e6
  have TI := Lib.hid (show TL 6 w6 v5 L from by rw [HL.out]; exact T5.out.tl 6 (by omega) (by omega) HWL.out)
  have TJ := Lib.hid (show QL 6 w6 v6 X from by rw [HX.out]; exact T6.out.ql 6 (by omega) (by omega) HWX.out)
  clear t6 e6 E5
  go_wp2_with fail
  refine (vdot_calls 6 6 _ _ L X w6 TI.out TJ.out (by omega)).mono ?_
  rintro e w7 ⟨v7, rfl, q7, z7, e7⟩
  obtain ⟨b7, a7, l7, k7, a7', l7', k7', rfl, q7⟩ := q7.opn
  clear z7
  go_wp2_with fail
  refine (gather_calls 6 _ X w7 (TJ.out.ext e7) (by rw [HXN.out]; omega) (by rw [HXN.out]; omega)).mono ?_
  rintro e w8 ⟨v8, rfl, t8, e8⟩
  rw [HXN.out] at t8
  obtain ⟨w9, hw9, e9, b9, s9⟩ := alloc1 w8 #[.bool b7, .slice a7 l7 k7, .slice a7' l7' k7'] 30
  have Q9 := Lib.hid (q7.ext (e8.trans e9))
  have T9 := Lib.hid ((t8.le (show _ ≤ 210 by omega)).ext e9)
  have E69 := (e7.trans e8).trans e9
  have hs67 := e7.size
  have E9 := E6.trans E69
  obtain ⟨wA, hwA⟩ : ∃ wA, wA = w9.alloc (.cells #[] 50) := ⟨_, rfl⟩
  have eA : Ext w9 wA := hwA ▸ (Ext.refl _).alloc _
  have hLA : LS 50 4 w9.heap.size wA (.slice (some ⟨w9.heap.size, 0, none⟩) 0 0) [] := hwA ▸ LS.empty _ _ _ _ (Nat.le_refl _)
  have HLA := Lib.hid hLA
  have hs9 : w9.heap.size = w8.heap.size + 1 := s9
  have HW9 := Lib.hid hw9
  have HWA := Lib.hid hwA
  clear q7 t8 e7 e8 e9 s9 hw9 hwA hLA
  go_wp2_with fail
  rw [← HW9.out, ← hs9, ← HWA.out]
  clear hs9
  go_loopw [9, 31] (fun s9 s31 wr => ∃ (i : Nat) (vs : List Value) (ado : Option Addr) (capo : Nat), i ≤ nu ∧ s31 = .int .i64 (i : Int) ∧ s9 = .slice ado i capo ∧ Hid (GaJ w9 wr 6 i X (.slice ado i capo) vs)) (fun _ s31 _ => ((nu : Int) - intOf s31).toNat)
  case atStart => exact ⟨0, [], some ⟨w9.heap.size, 0, none⟩, 0, Nat.zero_le _, rfl, rfl, Lib.hid ⟨eA, HLA.out, rfl, [], rfl, rfl, fun p hp => by cases hp⟩⟩
  case round =>
    obtain ⟨i, vs, ado, capo, hi, rfl, rfl, hH⟩ := hrel
    have hE0 := hH.out.1
    clear HLA eA HW9 HWA
    rcases Nat.eq_or_lt_of_le hi with hin | hin
    · subst hin
      have hlt : ¬ ((i : Int) < (i : Int)) := by omega
      have HT := Lib.hid hH.out.tl
      have BR := b9.ext hE0
      have ER := E9.trans hE0
      have QR := Lib.hid (Q9.out.ext hE0)
      have TR := Lib.hid (T9.out.ext hE0)
      clear hH b9 Q9 T9
      go_wp2_with fail
      refine wp_region_puts [] [PP.val (.agg #[.bool b7, .slice a7 l7 k7, .slice a7' l7' k7']), PP.val (v), PP.val (.slice adu i capu), PP.frQdS (dotV L X) 68719476736, PP.frQ (dotV L X), PP.val (.bool true), PP.val (.bool false), PP.val (.bool false), PP.val (v8), PP.val (.slice ado i capo), PP.tO 211 (mkV (gaN X i)), PP.val (.bool true), PP.val (.bool false), PP.val (.bool false)] [] [0, 1, 2, 3, 4, 5, 6, 7, 8, 9, 10, 11, 12, 13]
        (by kernel_rfl) (by kernel_rfl) (fun f => (by simp only [fillR, fillL, List.setIfInBounds_toArray, List.set_cons_succ, List.set_cons_zero, Nat.reduceAdd]; rfl)) ?_ ?_ ?_ ?_ ?_
      · intro x hx; cases hx
      · intro x hx; cases hx
      · intro x hx; cases hx
      · refine ⟨?o0, ?o1, ?o2, ?o3, ?o4, ?o5, ?o6, ?o7, ?o8, ?o9, ?o10, ?o11, ?o12, ?o13, trivial⟩
        case o0 =>
          intro f wB hG hp hl
          have hE : Ext wr wB := hG
          have hS := hE.size
          change OpGoal _ _ _ f wB Ext _
          exact og_load (P := Tryz.prog) _ _ w8.heap.size _ _ _ rfl rfl rfl (BR.ext hE) Tryz.underlying30 rfl (by kernel_rfl) rfl
        case o1 =>
          intro f wB hG hp hl
          have hE : Ext wr wB := hG
          have hS := hE.size
          simp only [OpGoal]
          go_simp
          exact ⟨_, rfl, Ext.refl _, rfl⟩
        case o2 =>
          intro f wB hG hp hl
          have hE : Ext wr wB := hG
          have hS := hE.size
          simp only [OpGoal]
          go_simp
          exact ⟨_, rfl, Ext.refl _, rfl⟩
        case o3 =>
          intro f wB hG hp hl
          have hE : Ext wr wB := hG
          have hS := hE.size
          have q45 : f 1 = v := tellV hp 0 1 rfl rfl (fun h => by cases h)
          have q46 : f 2 = .slice adu i capu := tellV hp 1 2 rfl rfl (fun h => by cases h)
          change OpGoal _ _ _ f wB Ext _
          refine og_call (P := Tryz.prog) _ _ _ #[f 1, f 2] Tryz.func23 (by kernel_rfl) (by kernel_rfl) rfl rfl (by kernel_rfl) ?_
          rw [q45, q46]
          refine (dot5_calls 6 _ _ L X _ (TV.out.ext (ER.trans hE)) (TX.out.ext (ER.trans hE)) (by omega) (by omega) (by rw [HXN.out]; omega)).mono ?_
          rintro e w' ⟨v', rfl, h1, h3, h2⟩
          exact ⟨v', rfl, h2, h1.mono hS, h3⟩
        case o4 =>
          intro f wB hG hp hl
          have hE : Ext wr wB := hG
          have hS := hE.size
          have q47 := tellV hp 0 3 rfl rfl (fun _ => hE)
          change OpGoal _ _ _ f wB Ext _
          refine og_call (P := Tryz.prog) _ _ _ #[f 3] Tryz.func15 (by kernel_rfl) (by kernel_rfl) rfl rfl (by kernel_rfl) ?_
          refine (rqto3_calls _ _ _ q47.1.cq q47.2).mono ?_
          rintro e w' ⟨v', rfl, h1, h2⟩
          exact ⟨v', rfl, h2, h1.mono hS⟩
        case o5 =>
          intro f wB hG hp hl
          have hE : Ext wr wB := hG
          have hS := hE.size
          have q44 : f 0 = .agg #[.bool b7, .slice a7 l7 k7, .slice a7' l7' k7'] := tellV hp 0 0 rfl rfl (fun h => by cases h)
          have q48 := tellV hp 1 4 rfl rfl (fun _ => hE)
          change OpGoal _ _ _ f wB Ext _
          refine og_call (P := Tryz.prog) _ _ _ #[f 0, f 4] Tryz.func14 (by kernel_rfl) (by kernel_rfl) rfl rfl (by kernel_rfl) ?_
          rw [q44]
          refine (same_true _ _ _ _ _ _ (QR.out.ext hE) q48).mono ?_
          rintro e w' ⟨rfl, h2⟩
          exact ⟨_, rfl, h2, rfl⟩
        case o6 =>
          intro f wB hG hp hl
          have hE : Ext wr wB := hG
          have hS := hE.size
          have q49 : f 5 = .bool true := tellV hp 0 5 rfl rfl (fun h => by cases h)
          simp only [OpGoal]
          go_simp
          exact ⟨_, rfl, Ext.refl _, rfl⟩
        case o7 =>
          intro f wB hG hp hl
          have hE : Ext wr wB := hG
          have hS := hE.size
          have q50 : f 6 = .bool false := tellV hp 0 6 rfl rfl (fun h => by cases h)
          simp only [OpGoal]
          go_simp
          exact ⟨_, rfl, Ext.refl _, rfl⟩
        case o8 =>
          intro f wB hG hp hl
          have hE : Ext wr wB := hG
          have hS := hE.size
          have qg : f 7 = .bool false := tellV hp 0 7 rfl rfl (fun h => by cases h)
          change OpGoal _ _ _ f wB Ext _
          refine og_guard (j := 7) (want := false) rfl qg ?_
          simp only [OpGoal]
          go_simp
          exact ⟨_, rfl, Ext.refl _, rfl⟩
        case o9 =>
          intro f wB hG hp hl
          have hE : Ext wr wB := hG
          have hS := hE.size
          have qg : f 7 = .bool false := tellV hp 0 7 rfl rfl (fun h => by cases h)
          change OpGoal _ _ _ f wB Ext _
          refine og_guard (j := 7) (want := false) rfl qg ?_
          simp only [OpGoal]
          go_simp
          exact ⟨_, rfl, Ext.refl _, rfl⟩
        case o10 =>
          intro f wB hG hp hl
          have hE : Ext wr wB := hG
          have hS := hE.size
          have q53 : f 9 = .slice ado i capo := tellV hp 0 9 rfl rfl (fun h => by cases h)
          have qg : f 7 = .bool false := tellV hp 1 7 rfl rfl (fun h => by cases h)
          change OpGoal _ _ _ f wB Ext _
          refine og_guard (j := 7) (want := false) rfl qg ?_
          change OpGoal _ _ _ f wB Ext _
          refine og_call (P := Tryz.prog) _ _ _ #[f 9] Tryz.func13 (by kernel_rfl) (by kernel_rfl) rfl rfl (by kernel_rfl) ?_
          rw [q53]
          refine (make5_calls 6 _ _ _ (HT.out.ext hE) (by omega) (by rw [gaN_len]; omega)).mono ?_
          rw [gaN_len]
          rintro e w' ⟨v', rfl, h1, h2⟩
          exact ⟨v', rfl, h2, (h1.le (by omega)).mono hS⟩
        case o11 =>
          intro f wB hG hp hl
          have hE : Ext wr wB := hG
          have hS := hE.size
          have q52 : f 8 = v8 := tellV hp 0 8 rfl rfl (fun h => by cases h)
          have q54 := tellV hp 1 10 rfl rfl (fun _ => hE)
          have qg : f 7 = .bool false := tellV hp 3 7 rfl rfl (fun h => by cases h)
          change OpGoal _ _ _ f wB Ext _
          refine og_guard (j := 7) (want := false) rfl qg ?_
          change OpGoal _ _ _ f wB Ext _
          refine og_call (P := Tryz.prog) _ _ _ #[f 8, f 10] Tryz.func12 (by kernel_rfl) (by kernel_rfl) rfl rfl (by kernel_rfl) ?_
          rw [q52]
          refine (all_true _ _ _ _ ((TR.out.ext hE).tle (by omega)) (q54.tle (by omega))).mono ?_
          rintro e w' ⟨rfl, h2⟩
          exact ⟨_, rfl, h2, rfl⟩
        case o12 =>
          intro f wB hG hp hl
          have hE : Ext wr wB := hG
          have hS := hE.size
          have q55 : f 11 = .bool true := tellV hp 0 11 rfl rfl (fun h => by cases h)
          have qg : f 7 = .bool false := tellV hp 1 7 rfl rfl (fun h => by cases h)
          change OpGoal _ _ _ f wB Ext _
          refine og_guard (j := 7) (want := false) rfl qg ?_
          simp only [OpGoal]
          go_simp
          exact ⟨_, rfl, Ext.refl _, rfl⟩
        case o13 =>
          intro f wB hG hp hl
          have hE : Ext wr wB := hG
          have hS := hE.size
          have q51 : f 7 = .bool false := tellV hp 0 7 rfl rfl (fun h => by cases h)
          have q56 : f 12 = .bool false := tellV hp 1 12 rfl rfl (fun h => by cases h)
          simp only [OpGoal]
          go_simp
          exact ⟨_, rfl, Ext.refl _, rfl⟩
      · intro f wB hG hp
        have hE : Ext wr wB := ChgS.nil hG
        have q57 : f 13 = .bool false := endV hp 13 (by decide) rfl (fun h => by cases h)
        try simp only [q57]
        clear hp
        have SB := Lib.hid (TR.out.ext hE).sp
        have E6B := (E69.trans hE0).trans hE
        clear HT BR TR QR ER hE hE0
        go_wp2_with fail
        refine (spoil5_calls _ _ wB SB.out).mono ?_
        rintro e wC ⟨rfl, hC⟩
        have E6C := E6B.hurtV hC hs67
        have EC := E6.trans E6C
        clear SB E6B hC
        go_wp2_with fail
        refine (all_true _ _ l wC (T5.out.ext E6C) (HV.out.ext EC)).mono ?_
        rintro e wD ⟨rfl, eD⟩
        go_wp2_with fail
        refine (sameAll_true _ _ xl wD (T6.out.ext (E6C.trans eD)) (HU.out.ext (EC.trans eD))).mono ?_
        rintro e wE ⟨rfl, eE⟩
        go_wp2
        go_ret
        exact ⟨rfl, (EC.trans eD).trans eE⟩
    · have hlt : (i : Int) < (nu : Int) := by omega
      obtain ⟨x, hx⟩ : ∃ x, X[i]? = some x := ⟨_, List.getElem?_eq_getElem (by rw [HXN.out]; exact hin)⟩
      obtain ⟨adx, nx, capx, -, hvx, -, hat⟩ := (TX.out.ext E9).at
      cases hvx
      obtain ⟨g, off, rfl, b, a1, n1, c1, a2, n2, c2, hcell, hR⟩ := hat i x hx
      have hc0 := hcell wr hE0 0 _ rfl
      have hc1 := hcell wr hE0 1 _ rfl
      have hc2 := hcell wr hE0 2 _ rfl
      simp only [Nat.add_zero] at hc0
      have HXI := Lib.hid (And.intro hx hR)
      have hvi : vs.length = i := hH.out.2.2.1
      subst hvi
      have hwr := hE0.size
      have hls : Hid (LS 50 4 w9.heap.size wr (.slice ado vs.length capo) vs) := Lib.hid hH.out.2.1
      clear hcell hx hR hat
      go_wp2_with (first
        | (at_builtin; go_loud (refine wpList_append_LS rfl _ _ 22 rfl 50 4 64 w9.heap.size Tryz.underlying22 (by kernel_rfl) (by kernel_rfl) (by omega) _ vs rfl (hls.out.ext ((Ext.refl _).alloc _)) ⟨wr.heap.size, 0, none⟩ #[.int .i64 (vs.length : Int), .bool b, .slice a1 n1 c1, .slice a2 n2 c2] rfl rfl (news_new _ _ _) (by kernel_rfl) (by omega) (by omega) (by rw [alloc_size]; omega) ?_); intro g' cap2' w7' hls7 hg7 hwh7 hlt7)
        | fail)
      go_roundw
      case rel =>
        have hA := (Ext.refl wr).alloc (.cells #[.int .i64 (vs.length : Int), .bool b, .slice a1 n1 c1, .slice a2 n2 c2] 50)
        have hE7 : Ext w9 w7' := (hE0.trans hA).stepG hg7 hls.out.ge
        exact ⟨vs.length + 1, _, some ⟨g', 0, none⟩, cap2', by omega, by simp, rfl, Lib.hid (hH.out.app hE7 hls7 HXI.out.1 HXI.out.2)⟩
      case measure => simp [intOf]; omega
end Go.Proofs.YtoodekggpbbogaaGreat
