/-
 The documents' matrices: a matrix times a list, a list times a matrix, the product of two.
-/
import Derived.Test.YtdmjgjcljbogiaaGreatMaaT
namespace Go.Proofs.YtdmjgjcljbogiaaGreat
set_option maxRecDepth 100000
set_option maxHeartbeats 1000000
open Go.RowKit
set_option linter.unusedVariables false
set_option linter.unusedSimpArgs false
set_option maxHeartbeats 4000000 in
theorem times6_calls (k N : Nat) (v u : Value) (rows : List (List (Int × Rat))) (xs : List Rat) (w : World) (hv : ML k w v rows) (hx : QL k w u xs) (hk : k ≤ 1000) (hN : ∀ r ∈ rows, r.length ≤ N) (hN1 : N ≤ 1000) (hnx : xs.length ≤ 1000) (hn : rows.length ≤ 1000000) :
  Calls Tryz.prog 22 #[v, u] w fun e w' => ∃ v', e = .returned v' ∧ OL 58 3 w.heap.size (FrK w.heap.size (N * (k + k + 1) + 1)) w' v' (timesM rows xs) ∧ Ext w w' := by
 obtain ⟨ad, n, cap, hnl, rfl, hn1, hat⟩ := hv.at
 rw [← hnl] at hn
 obtain ⟨K, hK⟩ : ∃ K, K = N * (k + k + 1) + 1 := ⟨_, rfl⟩
 rw [← hK]
 have HK := Lib.hid hK
 have HN := Lib.hid hnl
 have HAT := Lib.hid hat
 have HX := Lib.hid hx
 have HL := Lib.hid hN
 have eb := emptyQ
 clear hnl hat hv hx hN hK
 go_enter Tryz.func22, Tryz.ntmps22
 go_wp2_with fail
 go_loopw [5, 6] (fun s5 s6 wr => ∃ (i : Nat) (ado : Option Addr) (capo : Nat), i ≤ n ∧ s6 = .int .i64 (i : Int) ∧ s5 = .slice ado i capo ∧ Hid (OL 58 3 w.heap.size (FrK w.heap.size K) wr (.slice ado i capo) (timesM (rows.take i) xs)) ∧ Ext w wr) (fun _ s6 _ => ((n : Int) - intOf s6).toNat)
 case atStart => exact ⟨0, some ⟨w.heap.size, 0, none⟩, 0, Nat.zero_le _, rfl, rfl, Lib.hid ⟨[], LS.empty _ _ _ _ (Nat.le_refl _), rfl, fun i u y h => by simp at h⟩, (Ext.refl _).alloc _⟩
 case round =>
  obtain ⟨i, ado, capo, hi, rfl, rfl, hS, hE0⟩ := hrel
  rcases Nat.eq_or_lt_of_le hi with hin | hin
  ·subst hin
   have hlt : ¬ ((i : Int) < (i : Int)) := by omega
   have hT := hS.out
   rw [show rows.take i = rows by rw [HN.out, List.take_length]] at hT
   have HT := Lib.hid hT
   clear hT
   go_wp2
   go_ret
   exact ⟨_, rfl, HT.out, hE0⟩
  ·have hlt : (i : Int) < (n : Int) := by omega
   obtain ⟨r, hr⟩ : ∃ x, rows[i]? = some x := ⟨_, List.getElem?_eq_getElem (by rw [← HN.out]; exact hin)⟩
   obtain ⟨g, off, rfl, a1, n1, c1, hcell, hTL⟩ := HAT.out i _ hr
   have hc0 := hcell wr hE0
   obtain ⟨vs, hls, hvl, hvs⟩ := hS.out
   have hvi : vs.length = i := by rw [hvl]; unfold timesM; rw [List.length_map, List.length_take, ← HN.out]; omega
   have htk := take_next hr
   have hrN := HL.out r (List.mem_of_getElem? hr)
   subst hvi
   have HTK := Lib.hid htk
   have HLS := Lib.hid hls
   have HV := Lib.hid (And.intro hvl hvs)
   have HR := Lib.hid (And.intro hTL hrN)
   have hwr := hE0.size
   have hszd : szQ (dotV r xs) ≤ K := by
    have h1 := sz_dot hTL.szs HX.out.szs
    have h2 : r.length * (k + k + 1) ≤ N * (k + k + 1) := Nat.mul_le_mul_right _ hrN
    have := HK.out
    omega
   have HSZ := Lib.hid hszd
   clear hcell hr hls hvl hvs htk hTL hrN hS hszd
   go_wp2_with fail
   refine (dot5_calls k _ _ r xs wr (HR.out.1.ext hE0) (HX.out.ext hE0) hk (by have := HR.out.2; omega) hnx).mono ?_
   rintro e w5 ⟨v5, rfl, r5, s5, e5⟩
   have H5 := Lib.hid (And.intro r5 s5)
   clear r5 s5 hc0
   go_wp2_with fail
   refine (rqto3_calls _ (dotV r xs) w5 H5.out.1.cq H5.out.2).mono ?_
   rintro e w6 ⟨v6, rfl, r6, e6'⟩
   have e6 := e5.trans e6'
   obtain ⟨b6, a6, l6, k6, a6', l6', k6', rfl, r6⟩ := r6.opn
   have hs5 := e5.size
   have HR6 := Lib.hid (show FrK w.heap.size K w6 _ (dotV r xs) from ⟨r6.mono (by omega), HSZ.out⟩)
   have hs6 := e6.size
   clear r6 H5 e5 e6'
   go_wp2_with (first
    | (at_builtin; go_loud (refine wpList_append_LS rfl _ _ 36 rfl 58 3 56 w.heap.size Tryz.underlying36 (by kernel_rfl) (by kernel_rfl) (by omega) _ vs rfl (HLS.out.ext (e6.trans ((Ext.refl _).alloc _))) ⟨w6.heap.size, 0, none⟩ #[.bool b6, .slice a6 l6 k6, .slice a6' l6' k6'] rfl rfl (news_new _ _ _) (by kernel_rfl) (by omega) (by omega) (by rw [alloc_size]; omega) ?_); intro g' cap2' w7 hls7 hg7 hwh7 hlt7)
    | fail)
   go_roundw
   case rel =>
    have hA := (Ext.refl w6).alloc (.cells #[.bool b6, .slice a6 l6 k6, .slice a6' l6' k6'] 58)
    refine ⟨vs.length + 1, some ⟨g', 0, none⟩, cap2', by omega, by simp, rfl, Lib.hid ?_, ((hE0.trans e6).trans hA).stepG hg7 HLS.out.ge⟩
    have hLA := HLS.out.ext (e6.trans hA)
    have e : timesM (rows.take (vs.length + 1)) xs = timesM (rows.take vs.length) xs ++ [dotV r xs] := by rw [HTK.out]; unfold timesM; rw [List.map_append]; rfl
    rw [e]
    exact OL.app (w := w6.alloc (.cells #[.bool b6, .slice a6 l6 k6, .slice a6' l6' k6'] 58)) HV.out.1 (fun i u y h1 h2 => FrK.ext (HV.out.2 i u y h1 h2) (e6.trans hA)) hls7 (fun u y h => FrK.grow h hLA hg7) (FrK.grow (FrK.ext HR6.out hA) hLA hg7)
   case measure => simp [intOf]; omega
set_option maxHeartbeats 4000000 in
theorem timesT6_calls (ky k N M K : Nat) (yv v : Value) (ys : List Rat) (rows : List (List (Int × Rat))) (w : World) (hy : QL ky w yv ys) (hv : ML k w v rows) (hN : ∀ r ∈ rows, r.length ≤ N) (hM : min ys.length rows.length ≤ M) (h30 : M * N + N ≤ 1000) (hK1 : ky ≤ K) (hK2 : k ≤ K) (hK3 : M * N * (ky + k + 1) + 1 ≤ K) (hK : K + K ≤ 1000000) :
  Calls Tryz.prog 24 #[yv, v] w fun e w' => ∃ v', e = .returned v' ∧ TO w.heap.size (M * N * (ky + k + 1) + 1) w' v' (mkV (catN ys rows (min ys.length rows.length))) ∧ Ext w w' := by
 obtain ⟨ady, ny, capy, hny, rfl, hny1, haty⟩ := hy.at
 obtain ⟨ad, n, cap, hnl, rfl, hn1, hat⟩ := hv.at
 obtain ⟨C, hC⟩ : ∃ C, C = M * N * (ky + k + 1) + 1 := ⟨_, rfl⟩
 rw [← hC] at hK3 ⊢
 have HC := Lib.hid hC
 obtain ⟨m, hm⟩ : ∃ m, m = min ny n := ⟨_, rfl⟩
 have HMIN := Lib.hid hm
 have HSY := Lib.hid hy.szs
 have HSR := Lib.hid hv.szs
 have HNY := Lib.hid hny
 have HN := Lib.hid hnl
 have HATY := Lib.hid haty
 have HAT := Lib.hid hat
 have HL := Lib.hid hN
 have eb := emptyT
 rw [← hny, ← hnl, ← hm] at hM ⊢
 clear hny hnl haty hat hv hy hN hC hm
 go_enter Tryz.func24, Tryz.ntmps24
 go_wp2_with fail
 go_loopw [5, 6] (fun s5 s6 wr => ∃ (i : Nat) (sv : Value), i ≤ m ∧ s6 = .int .i64 (i : Int) ∧ sv = s5 ∧ Hid (TO w.heap.size C wr sv (mkV (catN ys rows i))) ∧ Ext w wr) (fun _ s6 _ => ((m : Int) - intOf s6).toNat)
 case atStart => exact ⟨0, _, Nat.zero_le _, rfl, rfl, Lib.hid (TO.empty _ _ _ (Nat.le_refl _)), (Ext.refl _).alloc _⟩
 case round =>
  obtain ⟨i, sv, hi, rfl, rfl, HSV, hE0⟩ := hrel
  by_cases hin : i < n
  ·by_cases hiy : i < ny
   ·have hltn : (i : Int) < (n : Int) := by omega
    have hlty : (i : Int) < (ny : Int) := by omega
    have him : i < m := by have := HMIN.out; omega
    obtain ⟨y, hy⟩ : ∃ x, ys[i]? = some x := ⟨_, List.getElem?_eq_getElem (by rw [← HNY.out]; omega)⟩
    obtain ⟨r, hr⟩ : ∃ x, rows[i]? = some x := ⟨_, List.getElem?_eq_getElem (by rw [← HN.out]; omega)⟩
    obtain ⟨gy, offy, rfl, yb, y1, z1, p1, y2, z2, p2, hycell, hyR⟩ := HATY.out i _ hy
    obtain ⟨g, off, rfl, a1, n1, c1, hcell, hTL⟩ := HAT.out i _ hr
    have hc0 := hcell wr hE0
    have HCY := Lib.hid hycell
    have HCR := Lib.hid hcell
    have HYR := Lib.hid hyR
    have HTL := Lib.hid hTL
    have hcat := catN_snoc hy hr
    have HCAT := Lib.hid hcat
    have hrN := HL.out r (List.mem_of_getElem? hr)
    have hcl : (catN ys rows i).length ≤ i * N := catN_len HL.out i
    have hil : i * N ≤ M * N := Nat.mul_le_mul_right _ (by omega)
    have hml := mkV_len (catN ys rows i)
    have hi1 : i + 1 ≤ ys.length := by rw [← HNY.out]; omega
    have hi2 : i + 1 ≤ rows.length := by rw [← HN.out]; omega
    have hcl1 : (catN ys rows (i + 1)).length ≤ (i + 1) * N := catN_len HL.out (i + 1)
    have hil1 : (i + 1) * N ≤ M * N := Nat.mul_le_mul_right _ (by omega)
    have hsz : ∀ x ∈ mkV (catN ys rows (i + 1)), szQ x.2 ≤ C := sz_le (catN_szs HSY.out HSR.out hi1 hi2) (Nat.le_trans hcl1 hil1) (by rw [HC.out]; omega)
    have HSZ := Lib.hid hsz
    have HAX := Lib.hid (show (mkV (catN ys rows i)).length + r.length ≤ 1000 by omega)
    have hwr := hE0.size
    clear hy hr hycell hcell hyR hTL hcat hrN hcl hil hml hi1 hi2 hcl1 hil1 hsz
    go_wp2_with fail
    clear hc0
    refine wp_region_puts [] [PP.val (.slice (some ⟨gy, offy, none⟩) ny capy), PP.val (.int .i64 (i : Int)), PP.val (.pointer (some ⟨gy, offy + i * 3, none⟩)), PP.val (.agg #[.bool yb, .slice y1 z1 p1, .slice y2 z2 p2]), PP.val (.slice (some ⟨g, off, none⟩) n cap), PP.val (.int .i64 (i : Int)), PP.val (.pointer (some ⟨g, off + i, none⟩)), PP.val (.slice a1 n1 c1), PP.val (sv), PP.tO C (mkV (catN ys rows (i + 1))), PP.tO C (mkV (catN ys rows (i + 1)))] [(8, 10, 5)] [0, 1, 2, 3, 4, 5, 6, 7, 8, 9, 10]
     (by kernel_rfl) (by kernel_rfl) (fun f => (by simp only [fillR, fillL, List.setIfInBounds_toArray, List.set_cons_succ, List.set_cons_zero, Nat.reduceAdd]; rfl)) ?_ ?_ ?_ ?_ ?_
    ·intro x hx; cases hx
    ·intro x hx; cases hx
    ·intro x hx; cases hx
    ·refine ⟨?o0, ?o1, ?o2, ?o3, ?o4, ?o5, ?o6, ?o7, ?o8, ?o9, ?o10, trivial⟩
     case o0 =>
      intro f w6 hG hp hl
      have hE : Ext wr w6 := hG
      have hS := hE.size
      simp only [OpGoal]
      go_simp
      exact ⟨_, rfl, Ext.refl _, rfl⟩
     case o1 =>
      intro f w6 hG hp hl
      have hE : Ext wr w6 := hG
      have hS := hE.size
      simp only [OpGoal]
      go_simp
      exact ⟨_, rfl, Ext.refl _, rfl⟩
     case o2 =>
      intro f w6 hG hp hl
      have hE : Ext wr w6 := hG
      have hS := hE.size
      have q20 : f 0 = .slice (some ⟨gy, offy, none⟩) ny capy := tellV hp 0 0 rfl rfl (fun h => by cases h)
      have q21 : f 1 = .int .i64 (i : Int) := tellV hp 1 1 rfl rfl (fun h => by cases h)
      simp only [OpGoal]
      go_simp
      exact ⟨_, rfl, Ext.refl _, rfl⟩
     case o3 =>
      intro f w6 hG hp hl
      have hE : Ext wr w6 := hG
      have hS := hE.size
      have q22 : f 2 = .pointer (some ⟨gy, offy + i * 3, none⟩) := tellV hp 0 2 rfl rfl (fun h => by cases h)
      change OpGoal _ _ _ f w6 Ext _
      exact og_loadAt (P := Tryz.prog) _ _ gy (offy + i * 3) _ _ rfl rfl q22 (fun j v h => HCY.out _ (hE0.trans hE) j v h) Tryz.underlying58 rfl (by kernel_rfl) rfl
     case o4 =>
      intro f w6 hG hp hl
      have hE : Ext wr w6 := hG
      have hS := hE.size
      simp only [OpGoal]
      go_simp
      exact ⟨_, rfl, Ext.refl _, rfl⟩
     case o5 =>
      intro f w6 hG hp hl
      have hE : Ext wr w6 := hG
      have hS := hE.size
      simp only [OpGoal]
      go_simp
      exact ⟨_, rfl, Ext.refl _, rfl⟩
     case o6 =>
      intro f w6 hG hp hl
      have hE : Ext wr w6 := hG
      have hS := hE.size
      have q24 : f 4 = .slice (some ⟨g, off, none⟩) n cap := tellV hp 0 4 rfl rfl (fun h => by cases h)
      have q25 : f 5 = .int .i64 (i : Int) := tellV hp 1 5 rfl rfl (fun h => by cases h)
      simp only [OpGoal]
      go_simp
      exact ⟨_, rfl, Ext.refl _, rfl⟩
     case o7 =>
      intro f w6 hG hp hl
      have hE : Ext wr w6 := hG
      have hS := hE.size
      have q26 : f 6 = .pointer (some ⟨g, off + i, none⟩) := tellV hp 0 6 rfl rfl (fun h => by cases h)
      have hcell := HCR.out _ (hE0.trans hE)
      simp only [OpGoal]
      go_simp
      exact ⟨_, rfl, Ext.refl _, rfl⟩
     case o8 =>
      intro f w6 hG hp hl
      have hE : Ext wr w6 := hG
      have hS := hE.size
      have l5 : f 10 = sv := hl.1 rfl
      simp only [OpGoal]
      go_simp
      exact ⟨_, rfl, Ext.refl _, rfl⟩
     case o9 =>
      intro f w6 hG hp hl
      have hE : Ext wr w6 := hG
      have hS := hE.size
      have q23 : f 3 = .agg #[.bool yb, .slice y1 z1 p1, .slice y2 z2 p2] := tellV hp 0 3 rfl rfl (fun h => by cases h)
      have q27 : f 7 = .slice a1 n1 c1 := tellV hp 1 7 rfl rfl (fun h => by cases h)
      have q28 : f 8 = sv := tellV hp 2 8 rfl rfl (fun h => by cases h)
      change OpGoal _ _ _ f w6 Ext _
      refine og_call (P := Tryz.prog) _ _ _ #[f 3, f 7, f 8] Tryz.func52 (by kernel_rfl) (by kernel_rfl) rfl rfl (by kernel_rfl) ?_
      rw [q23, q27, q28]
      refine (axpy5_calls K (K + K) _ _ _ y r (mkV (catN ys rows i)) _ ((HYR.out.ext (hE0.trans hE)).mono hK1) ((HTL.out.ext (hE0.trans hE)).le hK2) ((((HSV.out.ext hE).le hK3)).tl (by rw [LIM_eq]; omega)) (by omega) hK HAX.out).mono ?_
      rintro e w' ⟨v', rfl, h1, h2⟩
      rw [mk_more, ← HCAT.out] at h1
      exact ⟨v', rfl, h2, (h1.to HSZ.out).mono hS⟩
     case o10 =>
      intro f w6 hG hp hl
      have hE : Ext wr w6 := hG
      have hS := hE.size
      have q29 := tellV hp 0 9 rfl rfl (fun _ => hE)
      exact ⟨_, rfl, Ext.refl _, q29⟩
    ·intro f w6 hG hp
     have hE : Ext wr w6 := ChgS.nil hG
     have q5 := endV hp 10 (by decide) rfl (fun _ => hE)
     clear hp
     have HQ := Lib.hid (show TO wr.heap.size C w6 _ (mkV (catN ys rows (i + 1))) from q5)
     clear q5
     go_wp2
     go_roundw
     case rel => exact ⟨i + 1, _, by omega, congrArg (Value.int .i64) (by omega), rfl, Lib.hid (HQ.out.mono hwr), hE0.trans hE⟩
     case measure => simp [intOf]; omega
   ·have hltn : (i : Int) < (n : Int) := by omega
    have hlty : ¬ (i : Int) < (ny : Int) := by omega
    have hdy : decide ((i : Int) < (ny : Int)) = false := decide_eq_false hlty
    have hT : Hid (TO w.heap.size C wr sv (mkV (catN ys rows m))) := Lib.hid (by rw [show m = i by have := HMIN.out; omega]; exact HSV.out)
    go_wp2
    go_ret
    exact ⟨_, rfl, hT.out, hE0⟩
  ·have hltn : ¬ (i : Int) < (n : Int) := by omega
   have hT : Hid (TO w.heap.size C wr sv (mkV (catN ys rows m))) := Lib.hid (by rw [show m = i by have := HMIN.out; omega]; exact HSV.out)
   go_wp2
   go_ret
   exact ⟨_, rfl, hT.out, hE0⟩
def getN (r : List (Int × Rat)) (n : Nat) : List Rat := (List.range n).map fun (j : Nat) => getV r (j : Int)
theorem getN_len (r : List (Int × Rat)) (n : Nat) : (getN r n).length = n := by unfold getN; simp
theorem getN_succ (r : List (Int × Rat)) (n : Nat) : getN r (n + 1) = getN r n ++ [getV r (n : Int)] := by unfold getN; rw [List.range_succ, List.map_append]; rfl
theorem getN_pr (r : List (Int × Rat)) (b : List (List (Int × Rat))) : mkV (catN (getN r b.length) b (min (getN r b.length).length b.length)) = prV r b := by
 rw [getN_len, Nat.min_self]
 exact prV_doc r b _ fun j hj => by unfold getN; simp [hj]
set_option maxHeartbeats 8000000 in
theorem product6_calls (ka kb N Nb M K : Nat) (v u : Value) (a b : List (List (Int × Rat))) (w : World) (ha : ML ka w v a) (hb : ML kb w u b) (hN : ∀ r ∈ a, r.length ≤ N) (hNb : ∀ r ∈ b, r.length ≤ Nb) (hn : a.length ≤ 1000000) (hM : b.length ≤ M) (hM2 : M ≤ 1000) (hN2 : N ≤ 6000) (hka : ka ≤ 1000000)
  (h30 : M * Nb + Nb ≤ 1000) (hK1 : N * (ka + 1) + 1 ≤ K) (hK2 : kb ≤ K) (hK3 : M * Nb * (N * (ka + 1) + 1 + kb + 1) + 1 ≤ K) (hK : K + K ≤ 1000000) :
  Calls Tryz.prog 15 #[v, u] w fun e w' => ∃ v', e = .returned v' ∧ MO w.heap.size (M * Nb * (N * (ka + 1) + 1 + kb + 1) + 1) w' v' (a.map fun r => prV r b) ∧ Ext w w' := by
 obtain ⟨ad, n, cap, hnl, rfl, hn1, hat⟩ := ha.at
 obtain ⟨adb, nb, capb, hnb, rfl, hnb1, hatb⟩ := hb.at
 obtain ⟨KA, hKA⟩ : ∃ KA, KA = N * (ka + 1) + 1 := ⟨_, rfl⟩
 rw [← hKA] at hK1 hK3 ⊢
 obtain ⟨C, hC⟩ : ∃ C, C = M * Nb * (KA + kb + 1) + 1 := ⟨_, rfl⟩
 rw [← hC]
 rw [← hnl] at hn
 have hM' := hM
 rw [← hnb] at hM'
 have HK3 := Lib.hid hK3
 have HKA := Lib.hid hKA
 have HC := Lib.hid hC
 have HB := Lib.hid hb
 have HN := Lib.hid hnl
 have HNB := Lib.hid hnb
 have HMB := Lib.hid hM
 have HAT := Lib.hid hat
 have HL := Lib.hid hN
 have HLB := Lib.hid hNb
 have eb := emptyM
 have eq := emptyQ
 clear hnl hnb hat hatb ha hb hN hNb hC hK3 hKA hM
 go_enter Tryz.func15, Tryz.ntmps15
 go_wp2_with fail
 go_loopw [5, 6] (fun s5 s6 wr => ∃ (i : Nat) (ado : Option Addr) (capo : Nat), i ≤ n ∧ s6 = .int .i64 (i : Int) ∧ s5 = .slice ado i capo ∧ Hid (MO w.heap.size C wr (.slice ado i capo) ((a.take i).map fun r => prV r b)) ∧ Ext w wr) (fun _ s6 _ => ((n : Int) - intOf s6).toNat)
 case atStart => exact ⟨0, some ⟨w.heap.size, 0, none⟩, 0, Nat.zero_le _, rfl, rfl, Lib.hid (OV.empty _ _ _ _ (Nat.le_refl _)), (Ext.refl _).alloc _⟩
 case round =>
  obtain ⟨i, ado, capo, hi, rfl, rfl, hS, hE0⟩ := hrel
  rcases Nat.eq_or_lt_of_le hi with hin | hin
  ·subst hin
   have hlt : ¬ ((i : Int) < (i : Int)) := by omega
   have hT := hS.out
   rw [show a.take i = a by rw [HN.out, List.take_length]] at hT
   have HT := Lib.hid hT
   clear hT
   go_wp2
   go_ret
   exact ⟨_, rfl, HT.out, hE0⟩
  ·have hlt : (i : Int) < (n : Int) := by omega
   obtain ⟨r, hr⟩ : ∃ x, a[i]? = some x := ⟨_, List.getElem?_eq_getElem (by rw [← HN.out]; exact hin)⟩
   obtain ⟨g, off, rfl, a1, n1, c1, hcell, hTL⟩ := HAT.out i _ hr
   have HCE := Lib.hid hcell
   have HTK := Lib.hid (take_next hr)
   have hrN := HL.out r (List.mem_of_getElem? hr)
   have HR := Lib.hid (And.intro hTL hrN)
   have hwr := hE0.size
   have hgs : ∀ c, szQ (getV r c) ≤ KA := fun c => by
    have h1 := sz_get hTL.szs c
    have h2 : r.length * (ka + 1) ≤ N * (ka + 1) := Nat.mul_le_mul_right _ hrN
    have := HKA.out
    omega
   have HGS := Lib.hid hgs
   have HSv := Lib.hid hS.out
   clear hcell hr hTL hgs hS
   go_wp2_with fail
   obtain ⟨wo, hwo⟩ : ∃ wo : World, wo = wr := ⟨_, rfl⟩
   rw [← hwo] at hE0 hwr HSv ⊢
   clear hwo
   go_loopw [7, 8] (fun s7 s8 wr => ∃ (j : Nat) (adp : Option Addr) (capp : Nat), j ≤ nb ∧ s8 = .int .i64 (j : Int) ∧ s7 = .slice adp j capp ∧ Hid (OL 58 3 wo.heap.size (FrK wo.heap.size KA) wr (.slice adp j capp) (getN r j)) ∧ Ext wo wr) (fun _ s8 _ => ((nb : Int) - intOf s8).toNat)
   case atStart => exact ⟨0, some ⟨wo.heap.size, 0, none⟩, 0, Nat.zero_le _, rfl, rfl, Lib.hid ⟨[], LS.empty _ _ _ _ (Nat.le_refl _), rfl, fun i u y h => by simp at h⟩, (Ext.refl _).alloc _⟩
   case round =>
    obtain ⟨j, adp, capp, hj, rfl, rfl, hP, hEj⟩ := hrel
    have hEw := hE0.trans hEj
    have hwj := hEj.size
    rcases Nat.eq_or_lt_of_le hj with hjn | hjn
    ·subst hjn
     have hlt2 : ¬ ((j : Int) < (j : Int)) := by omega
     have HQ := Lib.hid (OL.ql hP.out (by rw [LIM_eq]; omega))
     go_wp2_with fail
     refine (timesT6_calls KA kb Nb M K _ _ (getN r j) b wr HQ.out (HB.out.ext hEw) HLB.out (by rw [getN_len]; have := HMB.out; omega) h30 hK1 hK2 HK3.out hK).mono ?_
     rintro e w6 ⟨v6, rfl, r6, e6⟩
     rw [← HC.out] at r6
     have e6s := hEj.trans e6
     obtain ⟨vs, hls, hvl, hvs⟩ := HSv.out.ext e6s
     have hvi : vs.length = i := by rw [hvl, List.length_map, List.length_take, ← HN.out]; omega
     subst hvi
     have hPP : TO w.heap.size C w6 v6 (prV r b) := by
      have h2 := getN_pr r b
      rw [← HNB.out] at h2
      rw [← h2]
      have := HNB.out
      have h3 : min (getN r j).length b.length = min (getN r j).length j := by rw [← this]
      rw [h3] at r6
      exact r6.mono (by omega)
     obtain ⟨ads, caps, hsv⟩ := hPP.val
     rw [hsv] at hPP ⊢
     have HP := Lib.hid hPP
     have HLS := Lib.hid hls
     have HV := Lib.hid (And.intro hvl hvs)
     have hge := ownsRow_ge hls
     have HGE := Lib.hid hge
     have hE6 := hEw.trans e6
     have hs6 := hE6.size
     clear hPP hls hvl hvs HSv hge hsv r6 hP HQ
     go_wp2_with (first
      | (at_builtin; go_loud (refine wpList_append_V rfl _ _ 22 rfl 40 24 w.heap.size Tryz.underlying22 (by kernel_rfl) (by kernel_rfl) _ vs.length vs rfl (ownsRow_extI HLS.out ((Ext.refl _).alloc _)) ⟨w6.heap.size, 0, none⟩ (.slice ads (prV r b).length caps) rfl (cell_one_new _ _ _) rfl (by omega) (by omega) (by rw [alloc_size]; omega) ?_); intro g' cap2' w7 hls7 hg7 hwh7 hlt7)
      | fail)
     go_roundw
     case rel =>
      have hA := (Ext.refl w6).alloc (.cells #[.slice ads (prV r b).length caps] 40)
      refine ⟨vs.length + 1, some ⟨g', 0, none⟩, cap2', by omega, by simp, rfl, Lib.hid ?_, (hE6.trans hA).stepG hg7 HGE.out⟩
      have hLA := ownsRow_extI HLS.out hA
      rw [HTK.out, List.map_append]
      exact OV.app (w := w6.alloc (.cells #[.slice ads (prV r b).length caps] 40)) HV.out.1 (fun i u y h1 h2 => (HV.out.2 i u y h1 h2).ext hA) rfl hls7 (fun u y h => TO.grow h hLA hg7 (by decide) (by decide)) (TO.grow (HP.out.ext hA) hLA hg7 (by decide) (by decide))
     case measure => simp [intOf]; omega
    ·have hlt2 : (j : Int) < (nb : Int) := by omega
     have hc0 := HCE.out wr hEw
     obtain ⟨vs, hls, hvl, hvs⟩ := hP.out
     have hvi : vs.length = j := by rw [hvl, getN_len]
     subst hvi
     have HLS := Lib.hid hls
     have HV := Lib.hid (And.intro hvl hvs)
     clear hls hvl hvs hP
     go_wp2_with fail
     refine (get5_calls ka _ ((vs.length : Nat) : Int) r wr (HR.out.1.ext hEw) hka (by have := HR.out.2; omega)).mono ?_
     rintro e w5 ⟨v5, rfl, r5, s5, e5⟩
     have hs5' : szD (getV r ((vs.length : Nat) : Int)) ≤ 68719476736 := by
      have := szD_of (HGS.out ((vs.length : Nat) : Int))
      omega
     have H5 := Lib.hid (And.intro r5 hs5')
     clear r5 s5 hs5' hc0
     go_wp2_with fail
     refine (rqto3_calls _ (getV r ((vs.length : Nat) : Int)) w5 H5.out.1.cq H5.out.2).mono ?_
     rintro e w6 ⟨v6, rfl, r6, e6'⟩
     have e6 := e5.trans e6'
     obtain ⟨b6, a6, l6, k6, a6', l6', k6', rfl, r6⟩ := r6.opn
     have hs5 := e5.size
     have HR6 := Lib.hid (show FrK wo.heap.size KA w6 _ (getV r ((vs.length : Nat) : Int)) from ⟨r6.mono (by omega), HGS.out _⟩)
     have hs6 := e6.size
     clear r6 H5 e5 e6'
     go_wp2_with (first
      | (at_builtin; go_loud (refine wpList_append_LS rfl _ _ 36 rfl 58 3 56 wo.heap.size Tryz.underlying36 (by kernel_rfl) (by kernel_rfl) (by omega) _ vs rfl (HLS.out.ext (e6.trans ((Ext.refl _).alloc _))) ⟨w6.heap.size, 0, none⟩ #[.bool b6, .slice a6 l6 k6, .slice a6' l6' k6'] rfl rfl (news_new _ _ _) (by kernel_rfl) (by omega) (by omega) (by rw [alloc_size]; omega) ?_); intro g' cap2' w7 hls7 hg7 hwh7 hlt7)
      | fail)
     go_roundw
     case rel =>
      have hA := (Ext.refl w6).alloc (.cells #[.bool b6, .slice a6 l6 k6, .slice a6' l6' k6'] 58)
      refine ⟨vs.length + 1, some ⟨g', 0, none⟩, cap2', by omega, by simp, rfl, Lib.hid ?_, ((hEj.trans e6).trans hA).stepG hg7 HLS.out.ge⟩
      have hLA := HLS.out.ext (e6.trans hA)
      rw [getN_succ]
      exact OL.app (w := w6.alloc (.cells #[.bool b6, .slice a6 l6 k6, .slice a6' l6' k6'] 58)) HV.out.1 (fun i u y h1 h2 => FrK.ext (HV.out.2 i u y h1 h2) (e6.trans hA)) hls7 (fun u y h => FrK.grow h hLA hg7) (FrK.grow (FrK.ext HR6.out hA) hLA hg7)
     case measure => simp [intOf]; omega
end Go.Proofs.YtdmjgjcljbogiaaGreat
/-
 The law MatTimes.
-/
namespace Go.Proofs.YtdmjgjcljbogiaaGreat
set_option maxRecDepth 100000
set_option maxHeartbeats 1000000
open Go.RowKit
set_option linter.unusedVariables false
set_option linter.unusedSimpArgs false
theorem ratT_len (ms : List (List TE)) {n : Nat} (h : ∀ l ∈ ms, l.length ≤ n) : ∀ r ∈ ms.map ratT, r.length ≤ n := by
 intro r hr
 obtain ⟨l, hl, rfl⟩ := List.mem_map.1 hr
 unfold ratT
 rw [List.length_map]
 exact h l hl
set_option maxHeartbeats 8000000 in
theorem matTimes_calls (v u z : Value) (ms : List (List TE)) (xl yl : List RE) (w : World) (hv : MLE w v ms) (hb : ms.length ≤ 281474976710656) (hu : SLQ w u xl) (hz : SLQ w z yl) :
  Calls Tryz.prog 4 #[v, u, z] w fun e w' => e = .returned (.bool true) ∧ Ext w w' := by
 have HV := Lib.hid hv
 have HU := Lib.hid hu
 have HZ := Lib.hid hz
 have lim : (100000 : Nat) ≤ LIM := by rw [LIM_eq]; omega
 clear hv hu hz
 go_enter Tryz.func4, Tryz.ntmps4
 go_wp2_with fail
 refine (speaks6_calls _).mono ?_
 rintro e w2 ⟨rfl, e2⟩
 go_wp2_with fail
 refine (greatM_calls _ ms w2 (HV.out.ext e2) hb).mono ?_
 rintro e w3 ⟨rfl, e3⟩
 obtain ⟨p, hp⟩ : ∃ p, p = greatM ms := ⟨_, rfl⟩
 rw [← hp]
 have HP := Lib.hid hp
 clear hp
 have E3 := e2.trans e3
 cases p with
 | true =>
  go_wp2
  go_ret
  exact ⟨rfl, E3⟩
 | false =>
 go_wp2_with fail
 refine (greatAll_calls _ xl w3 (HU.out.ext E3)).mono ?_
 rintro e w4 ⟨rfl, e4⟩
 obtain ⟨q, hq⟩ : ∃ q, q = greatE xl := ⟨_, rfl⟩
 rw [← hq]
 have HQ := Lib.hid hq
 clear hq
 have E4 := E3.trans e4
 cases q with
 | true =>
  go_wp2
  go_ret
  exact ⟨rfl, E4⟩
 | false =>
 go_wp2_with fail
 refine (greatAll_calls _ yl w4 (HZ.out.ext E4)).mono ?_
 rintro e w5 ⟨rfl, e5⟩
 obtain ⟨s, hs⟩ : ∃ s, s = greatE yl := ⟨_, rfl⟩
 rw [← hs]
 have HR := Lib.hid hs
 clear hs
 have E5 := E4.trans e5
 cases s with
 | true =>
  go_wp2
  go_ret
  exact ⟨rfl, E5⟩
 | false =>
 obtain ⟨m1, m2⟩ := greatM_not HP.out.symm
 obtain ⟨x1, x2⟩ := greatE_not HQ.out.symm
 obtain ⟨y1, y2⟩ := greatE_not HR.out.symm
 have HM2 := Lib.hid m2
 have HX2 := Lib.hid x2
 have HY2 := Lib.hid y2
 obtain ⟨M, hM⟩ : ∃ M, M = ms.map ratT := ⟨_, rfl⟩
 obtain ⟨X, hX⟩ : ∃ X, X = xl.map ratE := ⟨_, rfl⟩
 obtain ⟨Y, hY⟩ : ∃ Y, Y = yl.map ratE := ⟨_, rfl⟩
 have hMl : M.length ≤ 12 := by rw [hM, List.length_map]; exact m1
 have hXl : X.length ≤ 30 := by rw [hX, List.length_map]; exact x1
 have hYl : Y.length ≤ 30 := by rw [hY, List.length_map]; exact y1
 have HML := Lib.hid (show ∀ r ∈ M, r.length ≤ 30 by rw [hM]; exact ratT_len ms fun l hl => (m2 l hl).1)
 have toM : ∀ {w' : World} {v' : Value}, MLE w' v' ms → ML 6 w' v' M := fun h => by rw [hM]; exact h.ml 6 (by omega) (by omega) fun l hl e he => (m2 l hl).2 e he
 have toX : ∀ {w' : World} {v' : Value}, SLQ w' v' xl → QL 6 w' v' X := fun h => by rw [hX]; exact h.ql 6 (by omega) (by omega) x2
 have toY : ∀ {w' : World} {v' : Value}, SLQ w' v' yl → QL 6 w' v' Y := fun h => by rw [hY]; exact h.ql 6 (by omega) (by omega) y2
 have TM := Lib.hid (And.intro @toM (And.intro @toX @toY))
 clear m2 x2 y2 hM hX hY toM toX toY HP HQ HR e2 e3 e4 e5 E3 E4
 go_wp2_with fail
 refine (copyM_calls _ ms w5 (HV.out.ext E5) (by omega) HM2.out).mono ?_
 rintro e w6 ⟨v6, rfl, r6, e6⟩
 have C6 := Lib.hid r6
 have E6 := E5.trans e6
 clear r6
 go_wp2_with fail
 refine (copyAll_calls _ xl w6 (HU.out.ext E6) (by omega) HX2.out).mono ?_
 rintro e w7 ⟨v7, rfl, r7, e7⟩
 have C7 := Lib.hid r7
 have E7 := E6.trans e7
 clear r7
 go_wp2_with fail
 refine (copyAll_calls _ yl w7 (HZ.out.ext E7) (by omega) HY2.out).mono ?_
 rintro e w8 ⟨v8, rfl, r8, e8⟩
 have C8 := Lib.hid r8
 have E8 := E7.trans e8
 have E68 := e7.trans e8
 clear r8 E5 E6 E7
 go_wp2_with fail
 refine (times_calls 6 6 30 _ _ M X w8 (TM.out.1 (C6.out.ext E68)) (TM.out.2.1 (C7.out.ext e8)) HML.out (by omega) (by omega)).mono ?_
 rintro e w9 ⟨v9, rfl, r9, e9⟩
 have R9 := Lib.hid r9
 have E9 := E8.trans e9
 clear r9
 go_wp2_with fail
 refine (timesT_calls 6 6 30 12 _ _ Y M w9 (TM.out.2.2 (C8.out.ext e9)) (TM.out.1 (C6.out.ext (E68.trans e9))) HML.out (by omega) (by omega) (by omega)).mono ?_
 rintro e w10 ⟨v10, rfl, r10, e10⟩
 have R10 := Lib.hid r10
 have E10 := E9.trans e10
 clear r10
 go_wp2_with fail
 refine (times6_calls 6 30 _ _ M X w10 (TM.out.1 (HV.out.ext E10)) (TM.out.2.1 (HU.out.ext E10)) (by omega) HML.out (by omega) (by omega) (by omega)).mono ?_
 rintro e w11 ⟨v11, rfl, r11, e11⟩
 have R11 := Lib.hid r11
 have E11 := E10.trans e11
 clear r11
 have hS := (OL.slq R9.out (by omega)).ext (e10.trans e11)
 have HSS := Lib.hid (And.intro hS (OL.slq R11.out (by omega)))
 clear hS
 go_wp2_with fail
 refine (sameAll_true _ _ _ w11 HSS.out.1 HSS.out.2).mono ?_
 rintro e w12 ⟨rfl, e12⟩
 have E12 := E11.trans e12
 clear HSS R9 R11
 go_wp2_with fail
 refine (timesT6_calls 6 6 30 12 4681 _ _ Y M w12 (TM.out.2.2 (HZ.out.ext E12)) (TM.out.1 (HV.out.ext E12)) HML.out (by omega) (by omega) (by omega) (by omega) (by omega) (by omega)).mono ?_
 rintro e w13 ⟨v13, rfl, r13, e13⟩
 have E13 := E12.trans e13
 have hT := (R10.out.ext ((e11.trans e12).trans e13)).tle (show 12 * 30 * (6 + 6 + 1) + 1 ≤ LIM by omega)
 have HTT := Lib.hid (And.intro hT (r13.tle (by omega)))
 clear hT r13
 go_wp2_with fail
 refine (all_true _ _ _ w13 HTT.out.1 HTT.out.2).mono ?_
 rintro e w14 ⟨rfl, e14⟩
 have E14 := E13.trans e14
 have SP := Lib.hid (R10.out.sp.ext (((e11.trans e12).trans e13).trans e14))
 clear HTT R10
 go_wp2_with fail
 refine (spoil5_calls w9.heap.size _ w14 SP.out).mono ?_
 rintro e w15 ⟨rfl, h15⟩
 have E9H : Ext w9 w15 := ((((e10.trans e11).trans e12).trans e13).trans e14).hurtV h15 (Nat.le_refl _)
 have E15 := E9.trans E9H
 clear SP e10 e11 e12 e13 e14 E10 E11 E12 E13 E14 h15
 go_wp2_with fail
 refine (sameM_true _ _ ms w15 (C6.out.ext ((E68.trans e9).trans E9H)) (HV.out.ext E15)).mono ?_
 rintro e w16 ⟨rfl, e16⟩
 go_wp2_with fail
 refine (sameAll_true _ _ xl w16 (C7.out.ext (((e8.trans e9).trans E9H).trans e16)) (HU.out.ext (E15.trans e16))).mono ?_
 rintro e w17 ⟨rfl, e17⟩
 go_wp2_with fail
 refine (sameAll_true _ _ yl w17 (C8.out.ext (((e9.trans E9H).trans e16).trans e17)) (HZ.out.ext ((E15.trans e16).trans e17))).mono ?_
 rintro e w18 ⟨rfl, e18⟩
 go_wp2
 go_ret
 exact ⟨rfl, ((E15.trans e16).trans e17).trans e18⟩
end Go.Proofs.YtdmjgjcljbogiaaGreat
/-
 Matrices: the product of two (mat.Product).
-/
namespace Go.Proofs.YtdmjgjcljbogiaaGreat
set_option maxRecDepth 100000
set_option maxHeartbeats 1000000
open Go.RowKit
set_option linter.unusedVariables false
set_option linter.unusedSimpArgs false
set_option maxHeartbeats 8000000 in
theorem product_calls (ka kb N Nb : Nat) (v u : Value) (a b : List (List (Int × Rat))) (w : World) (ha : ML ka w v a) (hb : ML kb w u b) (hN : ∀ r ∈ a, r.length ≤ N) (hNb : ∀ r ∈ b, r.length ≤ Nb) (hn : a.length ≤ 1000000) (hn30 : N * Nb + Nb ≤ 1073741824) (hN30 : N ≤ 1073741824)
  (hK1 : (N + 1) * (ka + 1) ≤ 34359738000) (hK : (N * Nb + Nb + 1) * (N * Nb * (N * (ka + 1) + kb + 1) + N * (ka + 1) + kb + 2) ≤ 34359738000) :
  Calls Tryz.prog 26 #[v, u] w fun e w' => ∃ v', e = .returned v' ∧ MO w.heap.size (N * Nb * (N * (ka + 1) + kb + 1) + 1) w' v' (a.map fun r => prV r b) ∧ Ext w w' := by
 obtain ⟨ad, n, cap, hnl, rfl, hn1, hat⟩ := ha.at
 obtain ⟨adb, nb, capb, hnb, rfl, hnb1, hatb⟩ := hb.at
 obtain ⟨KA, hKA⟩ : ∃ KA, KA = N * (ka + 1) := ⟨_, rfl⟩
 rw [← hKA] at hK
 obtain ⟨C, hC⟩ : ∃ C, C = N * Nb * (KA + kb + 1) + 1 := ⟨_, rfl⟩
 have hCL : C + KA ≤ 34359738000 := by
  have h1 : 1 * (N * Nb * (KA + kb + 1) + KA + kb + 2) ≤ (N * Nb + Nb + 1) * (N * Nb * (KA + kb + 1) + KA + kb + 2) := Nat.mul_le_mul_right _ (by omega)
  omega
 rw [← hKA, ← hC]
 rw [← hnl] at hn
 have HKK := Lib.hid hK
 have HK1 := Lib.hid hK1
 have HKA := Lib.hid hKA
 have HC := Lib.hid hC
 have HSB := Lib.hid hb.szs
 have HN := Lib.hid hnl
 have HNB := Lib.hid hnb
 have HAT := Lib.hid hat
 have HATB := Lib.hid hatb
 have HL := Lib.hid hN
 have HLB := Lib.hid hNb
 clear hnl hnb hat hatb ha hb hN hNb hC hK hK1 hKA
 go_enter Tryz.func26, Tryz.ntmps26
 go_wp2_with fail
 go_loopw [4, 12] (fun s4 s12 wr => ∃ (i : Nat) (ado : Option Addr) (capo : Nat), i ≤ n ∧ s12 = .int .i64 (i : Int) ∧ s4 = .slice ado i capo ∧ Hid (MO w.heap.size C wr (.slice ado i capo) ((a.take i).map fun r => prV r b)) ∧ Ext w wr) (fun _ s12 _ => ((n : Int) - intOf s12).toNat)
 case atStart => exact ⟨0, none, 0, Nat.zero_le _, rfl, rfl, Lib.hid (MO.nil _ _ _), Ext.refl _⟩
 case round =>
  obtain ⟨i, ado, capo, hi, rfl, rfl, hS, hE0⟩ := hrel
  rcases Nat.eq_or_lt_of_le hi with hin | hin
  ·subst hin
   have hlt : ¬ ((i : Int) < (i : Int)) := by omega
   have hT := hS.out
   rw [show a.take i = a by rw [HN.out, List.take_length]] at hT
   have HT := Lib.hid hT
   clear hT
   go_wp2
   go_ret
   exact ⟨_, rfl, HT.out, hE0⟩
  ·have hlt : (i : Int) < (n : Int) := by omega
   obtain ⟨r, hr⟩ : ∃ x, a[i]? = some x := ⟨_, List.getElem?_eq_getElem (by rw [← HN.out]; exact hin)⟩
   obtain ⟨g, off, rfl, a1, n1, c1, hcell, hTL⟩ := HAT.out i _ hr
   have hc0 := hcell wr hE0
   have HTK := Lib.hid (take_next hr)
   have hrN := HL.out r (List.mem_of_getElem? hr)
   have HR := Lib.hid (And.intro hTL hrN)
   have hm : (r.length + 1) * (ka + 1) ≤ (N + 1) * (ka + 1) := Nat.mul_le_mul_right _ (by omega)
   have hm2 : r.length * (ka + 1) ≤ N * (ka + 1) := Nat.mul_le_mul_right _ (by omega)
   have HM := Lib.hid (And.intro (Nat.le_trans hm HK1.out) (show r.length * (ka + 1) ≤ KA by rw [HKA.out]; exact hm2))
   have hwr := hE0.size
   clear hcell hr hTL hm hm2
   go_wp2_with fail
   refine (vmake_calls ka _ r wr (HR.out.1.ext hE0) (by omega) HM.out.1).mono ?_
   rintro e w6 ⟨v6, rfl, hto, e6⟩
   obtain ⟨ad6, cap6, rfl, hl6, hat6⟩ := (hto.le HM.out.2).at
   have HAT6 := Lib.hid hat6
   have HSM := Lib.hid (hto.le HM.out.2).szs
   have hLr := mkV_len r
   obtain ⟨L, hL⟩ : ∃ L, L = (mkV r).length := ⟨_, rfl⟩
   rw [← hL] at hl6 hLr ⊢
   have HLL := Lib.hid hL
   have hs6 := e6.size
   have hE6 := hE0.trans e6
   have HS6 := Lib.hid (hS.out.ext e6)
   clear hc0 hto hat6 hL hS
   go_wp2_with fail
   obtain ⟨wo, hwo⟩ : ∃ wo : World, wo = wr := ⟨_, rfl⟩
   rw [← hwo] at hE0 hwr e6 hs6
   clear hwo
   go_loopw [7, 19] (fun s7 s19 wr => ∃ (j : Nat) (sv : Value), j ≤ L ∧ s19 = .int .i64 (j : Int) ∧ sv = s7 ∧ Hid (TO w.heap.size C wr sv (mkV (catP ((mkV r).take j) b))) ∧ Ext w6 wr) (fun _ s19 _ => ((L : Int) - intOf s19).toNat)
   case atStart => exact ⟨0, _, Nat.zero_le _, rfl, rfl, Lib.hid (TO.nil0 _ _ _), Ext.refl _⟩
   case round =>
    obtain ⟨j, sv, hj, rfl, rfl, HSV, hE6j⟩ := hrel
    have hEw := hE6.trans hE6j
    rcases Nat.eq_or_lt_of_le hj with hjn | hjn
    ·subst hjn
     have hlt2 : ¬ ((j : Int) < (j : Int)) := by omega
     obtain ⟨vs, hls, hvl, hvs⟩ := HS6.out.ext hE6j
     have hvi : vs.length = i := by rw [hvl, List.length_map, List.length_take, ← HN.out]; omega
     subst hvi
     have hP : TO w.heap.size C wr sv (prV r b) := by
      have := HSV.out
      rw [show (mkV r).take j = mkV r by rw [HLL.out, List.take_length]] at this
      exact this
     obtain ⟨ads, caps, hsv⟩ := hP.val
     have HP := Lib.hid hP
     have HLS := Lib.hid hls
     have HV := Lib.hid (And.intro hvl hvs)
     have hge := ownsRow_ge hls
     have HGE := Lib.hid hge
     have hwr := hEw.size
     clear hP hls hvl hvs HSV HS6 hge
     rw [hsv] at HP ⊢
     clear hsv
     go_wp2_with (first
      | (at_builtin; go_loud (refine wpList_append_V rfl _ _ 22 rfl 40 24 w.heap.size Tryz.underlying22 (by kernel_rfl) (by kernel_rfl) _ vs.length vs rfl (ownsRow_extI HLS.out ((Ext.refl _).alloc _)) ⟨wr.heap.size, 0, none⟩ (.slice ads (prV r b).length caps) rfl (cell_one_new _ _ _) rfl (by omega) (by omega) (by rw [alloc_size]; omega) ?_); intro g' cap2' w7 hls7 hg7 hwh7 hlt7)
      | fail)
     go_roundw
     case rel =>
      have hA := (Ext.refl wr).alloc (.cells #[.slice ads (prV r b).length caps] 40)
      refine ⟨vs.length + 1, some ⟨g', 0, none⟩, cap2', by omega, by simp, rfl, Lib.hid ?_, (hEw.trans hA).stepG hg7 HGE.out⟩
      have hLA := ownsRow_extI HLS.out hA
      rw [HTK.out, List.map_append]
      exact OV.app (w := wr.alloc (.cells #[.slice ads (prV r b).length caps] 40)) HV.out.1 (fun i u y h1 h2 => (HV.out.2 i u y h1 h2).ext hA) rfl hls7 (fun u y h => TO.grow h hLA hg7 (by decide) (by decide)) (TO.grow (HP.out.ext hA) hLA hg7 (by decide) (by decide))
     case measure => simp [intOf]; omega
    ·have hlt2 : (j : Int) < (L : Int) := by omega
     obtain ⟨x, hx⟩ : ∃ x, (mkV r)[j]? = some x := ⟨_, List.getElem?_eq_getElem (by rw [← HLL.out]; exact hjn)⟩
     have hx0 : 0 ≤ x.1 := (mkV_nf r).1.2 x (List.mem_of_getElem? hx)
     obtain ⟨g6, rfl, b', a1', n1', c1', a2', n2', c2', hcell, hFr, hsz⟩ := HAT6.out j x hx
     obtain ⟨xc, xq⟩ := x
     simp only at hcell hFr hsz hx0
     obtain ⟨hc0, hc1, hc2, hc3⟩ := hcell wr hE6j
     have HX := Lib.hid (And.intro (take_next hx) (hFr.isR hsz (by rw [LIM_eq]; omega)))
     obtain ⟨w5, hw5, e5, b5, s5⟩ := alloc1 wr #[.int .i64 xc, .bool b', .slice a1' n1' c1', .slice a2' n2' c2'] 66
     have E5 := hEw.trans e5
     have hwr := hEw.size
     have hszt : ∀ t ∈ (mkV r).take (j + 1), szQ t.2 ≤ KA := fun t ht => HSM.out t (List.mem_of_mem_take ht)
     have hl1 : ((mkV r).take (j + 1)).length ≤ N := by rw [List.length_take]; omega
     have hcl1 : (catP ((mkV r).take (j + 1)) b).length ≤ N * Nb := Nat.le_trans (catP_len HLB.out _) (Nat.mul_le_mul_right _ hl1)
     have hSZ : ∀ t ∈ mkV (catP ((mkV r).take (j + 1)) b), szQ t.2 ≤ C := sz_le (catP_szs hszt HSB.out) hcl1 (by rw [HC.out]; omega)
     have HSZ := Lib.hid hSZ
     clear hx hcell hFr hsz hszt hl1 hcl1 hSZ
     by_cases hcc : xc < (nb : Int)
     ·obtain ⟨cn, rfl⟩ : ∃ cn : Nat, xc = (cn : Int) := ⟨xc.toNat, by omega⟩
      have hcn : cn < nb := by omega
      obtain ⟨s, hs⟩ : ∃ y, b[cn]? = some y := ⟨_, List.getElem?_eq_getElem (by rw [← HNB.out]; exact hcn)⟩
      obtain ⟨gb, offb, rfl, sa, sn, sc, hscell, hsTL⟩ := HATB.out cn s hs
      have hsN := HLB.out s (List.mem_of_getElem? hs)
      have HCS := Lib.hid hscell
      have HSTL := Lib.hid hsTL
      have hcat : catP ((mkV r).take (j + 1)) b = catP ((mkV r).take j) b ++ scV xq s := by
       rw [HX.out.1, catP_snoc, if_pos (by rw [← HNB.out]; exact hcc)]
       have : b.getD (cn : Int).toNat [] = s := by simp [List.getD, hs]
       rw [this]
      have HCAT := Lib.hid hcat
      have hl0 : ((mkV r).take j).length ≤ N := by rw [List.length_take]; omega
      have hcl : (catP ((mkV r).take j) b).length ≤ N * Nb := Nat.le_trans (catP_len HLB.out _) (Nat.mul_le_mul_right _ hl0)
      have hml := mkV_len (catP ((mkV r).take j) b)
      have hax : ((mkV (catP ((mkV r).take j) b)).length + s.length + 1) * (C + KA + kb + 1) ≤ 34359738000 := by
       refine Nat.le_trans (Nat.mul_le_mul (show _ ≤ N * Nb + Nb + 1 by omega) (Nat.le_of_eq ?_)) HKK.out
       rw [HC.out]
       omega
      have HAX := Lib.hid (And.intro hax (show (mkV (catP ((mkV r).take j) b)).length + s.length ≤ 1073741824 by omega))
      clear hs hscell hsTL hcat hl0 hcl hml hax hsN
      go_wp2_with fail
      rw [← hw5]
      clear hw5 hc0 hc1 hc2 hc3
      refine wp_region_puts [] [PP.val (.pointer (some ⟨wr.heap.size, 1, none⟩)), PP.val (.agg #[.bool b', .slice a1' n1' c1', .slice a2' n2' c2']), PP.val (.slice (some ⟨gb, offb, none⟩) nb capb), PP.val (.pointer (some ⟨wr.heap.size, 0, none⟩)), PP.val (.int .i64 (cn : Int)), PP.val (.pointer (some ⟨gb, offb + cn, none⟩)), PP.val (.slice sa sn sc), PP.val (sv), PP.tO C (mkV (catP ((mkV r).take (j + 1)) b)), PP.tO C (mkV (catP ((mkV r).take (j + 1)) b))] [(7, 9, 7)] [0, 1, 2, 3, 4, 5, 6, 7, 8, 9]
       (by kernel_rfl) (by kernel_rfl) (fun f => (by simp only [fillR, fillL, List.setIfInBounds_toArray, List.set_cons_succ, List.set_cons_zero, Nat.reduceAdd]; rfl)) ?_ ?_ ?_ ?_ ?_
      ·intro x hx; cases hx
      ·intro x hx; cases hx
      ·intro x hx; cases hx
      ·refine ⟨?o0, ?o1, ?o2, ?o3, ?o4, ?o5, ?o6, ?o7, ?o8, ?o9, trivial⟩
       case o0 =>
        intro f w8 hG hp hl
        have hE : Ext w5 w8 := hG
        have hS := hE.size
        simp only [OpGoal]
        go_simp
        exact ⟨_, rfl, Ext.refl _, rfl⟩
       case o1 =>
        intro f w8 hG hp hl
        have hE : Ext w5 w8 := hG
        have hS := hE.size
        have q28 : f 0 = .pointer (some ⟨wr.heap.size, 1, none⟩) := tellV hp 0 0 rfl rfl (fun h => by cases h)
        have hbx := b5.ext hE
        have hcell0 := hbx.cell 0
        have hcell1 := hbx.cell 1
        have hcell2 := hbx.cell 2
        have hcell3 := hbx.cell 3
        simp only [OpGoal]
        go_simp
        exact ⟨_, rfl, Ext.refl _, rfl⟩
       case o2 =>
        intro f w8 hG hp hl
        have hE : Ext w5 w8 := hG
        have hS := hE.size
        simp only [OpGoal]
        go_simp
        exact ⟨_, rfl, Ext.refl _, rfl⟩
       case o3 =>
        intro f w8 hG hp hl
        have hE : Ext w5 w8 := hG
        have hS := hE.size
        simp only [OpGoal]
        go_simp
        exact ⟨_, rfl, Ext.refl _, rfl⟩
       case o4 =>
        intro f w8 hG hp hl
        have hE : Ext w5 w8 := hG
        have hS := hE.size
        have q31 : f 3 = .pointer (some ⟨wr.heap.size, 0, none⟩) := tellV hp 0 3 rfl rfl (fun h => by cases h)
        have hcell := (b5.ext hE).cell 0
        simp only [OpGoal]
        go_simp
        exact ⟨_, rfl, Ext.refl _, rfl⟩
       case o5 =>
        intro f w8 hG hp hl
        have hE : Ext w5 w8 := hG
        have hS := hE.size
        have q30 : f 2 = .slice (some ⟨gb, offb, none⟩) nb capb := tellV hp 0 2 rfl rfl (fun h => by cases h)
        have q32 : f 4 = .int .i64 (cn : Int) := tellV hp 1 4 rfl rfl (fun h => by cases h)
        simp only [OpGoal]
        go_simp
        exact ⟨_, rfl, Ext.refl _, rfl⟩
       case o6 =>
        intro f w8 hG hp hl
        have hE : Ext w5 w8 := hG
        have hS := hE.size
        have q33 : f 5 = .pointer (some ⟨gb, offb + cn, none⟩) := tellV hp 0 5 rfl rfl (fun h => by cases h)
        have hcell := HCS.out _ (E5.trans hE)
        simp only [OpGoal]
        go_simp
        exact ⟨_, rfl, Ext.refl _, rfl⟩
       case o7 =>
        intro f w8 hG hp hl
        have hE : Ext w5 w8 := hG
        have hS := hE.size
        have l7 : f 9 = sv := hl.1 rfl
        simp only [OpGoal]
        go_simp
        exact ⟨_, rfl, Ext.refl _, rfl⟩
       case o8 =>
        intro f w8 hG hp hl
        have hE : Ext w5 w8 := hG
        have hS := hE.size
        have q29 : f 1 = .agg #[.bool b', .slice a1' n1' c1', .slice a2' n2' c2'] := tellV hp 0 1 rfl rfl (fun h => by cases h)
        have q34 : f 6 = .slice sa sn sc := tellV hp 1 6 rfl rfl (fun h => by cases h)
        have q35 : f 7 = sv := tellV hp 2 7 rfl rfl (fun h => by cases h)
        change OpGoal _ _ _ f w8 Ext _
        refine og_call (P := Tryz.prog) _ _ _ #[f 1, f 6, f 7] Tryz.func49 (by kernel_rfl) (by kernel_rfl) rfl rfl (by kernel_rfl) ?_
        rw [q29, q34, q35]
        refine (vaxpy_calls KA kb C (C + KA + kb) _ _ _ xq s (mkV (catP ((mkV r).take j) b)) _ ((HX.out.2.ext (hE6j.trans e5)).ext hE) (HSTL.out.ext (E5.trans hE)) ((HSV.out.ext (e5.trans hE)).tl (by rw [LIM_eq]; omega)) (by omega) (by omega) HAX.out.2 HAX.out.1).mono ?_
        rintro e w' ⟨v', rfl, h1, h2⟩
        rw [mk_more, ← HCAT.out] at h1
        exact ⟨v', rfl, h2, (h1.to HSZ.out).mono hS⟩
       case o9 =>
        intro f w8 hG hp hl
        have hE : Ext w5 w8 := hG
        have hS := hE.size
        have q36 := tellV hp 0 8 rfl rfl (fun _ => hE)
        exact ⟨_, rfl, Ext.refl _, q36⟩
      ·intro f w8 hG hp
       have hE : Ext w5 w8 := ChgS.nil hG
       have q7 := endV hp 9 (by decide) rfl (fun _ => hE)
       clear hp
       have HQ := Lib.hid (show TO w5.heap.size C w8 _ (mkV (catP ((mkV r).take (j + 1)) b)) from q7)
       have hw58 := E5.size
       clear q7
       go_wp2
       go_roundw
       case rel => exact ⟨j + 1, _, by omega, congrArg (Value.int .i64) (by omega), rfl, Lib.hid (HQ.out.mono hw58), (hE6j.trans e5).trans hE⟩
       case measure => simp [intOf]; omega
     ·have hcat : catP ((mkV r).take (j + 1)) b = catP ((mkV r).take j) b := by
       rw [HX.out.1, catP_snoc, if_neg (by rw [← HNB.out]; exact hcc), List.append_nil]
      have HCAT := Lib.hid hcat
      clear hcat
      go_wp2
      go_roundw
      case rel =>
       rw [← hw5]
       exact ⟨j + 1, _, by omega, congrArg (Value.int .i64) (by omega), rfl, Lib.hid (by rw [HCAT.out]; exact HSV.out.ext e5), hE6j.trans e5⟩
      case measure => simp [intOf]; omega
end Go.Proofs.YtdmjgjcljbogiaaGreat
/-
 The law MatProducts.
-/
namespace Go.Proofs.YtdmjgjcljbogiaaGreat
set_option maxRecDepth 100000
set_option maxHeartbeats 1000000
open Go.RowKit
set_option linter.unusedVariables false
set_option linter.unusedSimpArgs false
set_option maxHeartbeats 8000000 in
theorem matProducts_calls (v u : Value) (ms ns : List (List TE)) (w : World) (hv : MLE w v ms) (hb : ms.length ≤ 281474976710656) (hu : MLE w u ns) (hb2 : ns.length ≤ 281474976710656) :
  Calls Tryz.prog 5 #[v, u] w fun e w' => e = .returned (.bool true) ∧ Ext w w' := by
 have HV := Lib.hid hv
 have HU := Lib.hid hu
 have lim : (100000 : Nat) ≤ LIM := by rw [LIM_eq]; omega
 clear hv hu
 go_enter Tryz.func5, Tryz.ntmps5
 go_wp2_with fail
 refine (speaks6_calls _).mono ?_
 rintro e w2 ⟨rfl, e2⟩
 go_wp2_with fail
 refine (greatM_calls _ ms w2 (HV.out.ext e2) hb).mono ?_
 rintro e w3 ⟨rfl, e3⟩
 obtain ⟨p, hp⟩ : ∃ p, p = greatM ms := ⟨_, rfl⟩
 rw [← hp]
 have HP := Lib.hid hp
 clear hp
 have E3 := e2.trans e3
 cases p with
 | true =>
  go_wp2
  go_ret
  exact ⟨rfl, E3⟩
 | false =>
 go_wp2_with fail
 refine (greatM_calls _ ns w3 (HU.out.ext E3) hb2).mono ?_
 rintro e w5 ⟨rfl, e5⟩
 obtain ⟨q, hq⟩ : ∃ q, q = greatM ns := ⟨_, rfl⟩
 rw [← hq]
 have HQ := Lib.hid hq
 clear hq
 have E5 := E3.trans e5
 cases q with
 | true =>
  go_wp2
  go_ret
  exact ⟨rfl, E5⟩
 | false =>
 obtain ⟨m1, m2⟩ := greatM_not HP.out.symm
 obtain ⟨x1, x2⟩ := greatM_not HQ.out.symm
 have HM2 := Lib.hid m2
 have HX2 := Lib.hid x2
 obtain ⟨M, hM⟩ : ∃ M, M = ms.map ratT := ⟨_, rfl⟩
 obtain ⟨X, hX⟩ : ∃ X, X = ns.map ratT := ⟨_, rfl⟩
 have hMl : M.length ≤ 12 := by rw [hM, List.length_map]; exact m1
 have hXl : X.length ≤ 12 := by rw [hX, List.length_map]; exact x1
 have HML := Lib.hid (show ∀ r ∈ M, r.length ≤ 30 by rw [hM]; exact ratT_len ms fun l hl => (m2 l hl).1)
 have HXL := Lib.hid (show ∀ r ∈ X, r.length ≤ 30 by rw [hX]; exact ratT_len ns fun l hl => (x2 l hl).1)
 have toM : ∀ {w' : World} {v' : Value}, MLE w' v' ms → ML 6 w' v' M := fun h => by rw [hM]; exact h.ml 6 (by omega) (by omega) fun l hl e he => (m2 l hl).2 e he
 have toX : ∀ {w' : World} {v' : Value}, MLE w' v' ns → ML 6 w' v' X := fun h => by rw [hX]; exact h.ml 6 (by omega) (by omega) fun l hl e he => (x2 l hl).2 e he
 have TM := Lib.hid (And.intro @toM @toX)
 clear m2 x2 hM hX toM toX HP HQ e2 e3 e5 E3
 go_wp2_with fail
 refine (copyM_calls _ ms w5 (HV.out.ext E5) (by omega) HM2.out).mono ?_
 rintro e w6 ⟨v6, rfl, r6, e6⟩
 have C6 := Lib.hid r6
 have E6 := E5.trans e6
 clear r6
 go_wp2_with fail
 refine (copyM_calls _ ns w6 (HU.out.ext E6) (by omega) HX2.out).mono ?_
 rintro e w8 ⟨v8, rfl, r8, e8⟩
 have C8 := Lib.hid r8
 have E8 := E6.trans e8
 clear r8 E5 E6
 go_wp2_with fail
 refine (product_calls 6 6 30 30 _ _ M X w8 (TM.out.1 (C6.out.ext e8)) (TM.out.2 C8.out) HML.out HXL.out (by omega) (by omega) (by omega) (by omega) (by omega)).mono ?_
 rintro e w9 ⟨v9, rfl, r9, e9⟩
 have R9 := Lib.hid r9
 have E9 := E8.trans e9
 clear r9
 go_wp2_with fail
 refine (product6_calls 6 6 30 30 12 80000 _ _ M X w9 (TM.out.1 (HV.out.ext E9)) (TM.out.2 (HU.out.ext E9)) HML.out HXL.out (by omega) (by omega) (by omega) (by omega) (by omega) (by omega) (by omega) (by omega) (by omega) (by omega)).mono ?_
 rintro e w13 ⟨v13, rfl, r13, e13⟩
 have E13 := E9.trans e13
 have hT := (R9.out.ext e13).mle (show 30 * 30 * (30 * (6 + 1) + 6 + 1) + 1 ≤ LIM by rw [LIM_eq]; omega)
 have HTT := Lib.hid (And.intro hT (r13.mle (by omega)))
 clear hT r13
 go_wp2_with fail
 refine (sameM_true _ _ _ w13 HTT.out.1 HTT.out.2).mono ?_
 rintro e w14 ⟨rfl, e14⟩
 have E14 := E13.trans e14
 have SP := Lib.hid (R9.out.sp.ext (e13.trans e14))
 clear HTT R9
 go_wp2_with fail
 refine (spoilM_calls w8.heap.size _ w14 SP.out).mono ?_
 rintro e w15 ⟨rfl, h15⟩
 have E8H : Ext w8 w15 := ((e9.trans e13).trans e14).hurtV h15 (Nat.le_refl _)
 have E15 := E8.trans E8H
 clear SP e9 e13 e14 E9 E13 E14 h15
 go_wp2_with fail
 refine (sameM_true _ _ ms w15 (C6.out.ext (e8.trans E8H)) (HV.out.ext E15)).mono ?_
 rintro e w16 ⟨rfl, e16⟩
 go_wp2_with fail
 refine (sameM_true _ _ ns w16 (C8.out.ext (E8H.trans e16)) (HU.out.ext (E15.trans e16))).mono ?_
 rintro e w17 ⟨rfl, e17⟩
 go_wp2
 go_ret
 exact ⟨rfl, (E15.trans e16).trans e17⟩
end Go.Proofs.YtdmjgjcljbogiaaGreat
