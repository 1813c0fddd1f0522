/-
 The documents' matrices: a matrix times a list, a list times a matrix, the product of two.
-/
import Derived.Test.YtdmjgjcljbogiaaGreatMaaT
namespace Go.Proofs.YtdmjgjcljbogiaaGreat
set_option maxRecDepth 100000
set_option maxHeartbeats 1000000
open Go.RowKit
set_option linter.unusedVariables false
set_option linter.unusedSimpArgs false
set_option maxHeartbeats 4000000 in
theorem times6_calls (k N : Nat) (v u : Value) (rows : List (List (Int × Rat))) (xs : List Rat) (w : World) (hv : ML k w v rows) (hx : QL k w u xs) (hk : k ≤ 1000) (hN : ∀ r ∈ rows, r.length ≤ N) (hN1 : N ≤ 1000) (hnx : xs.length ≤ 1000) (hn : rows.length ≤ 1000000) :
  Calls Tryz.prog 22 #[v, u] w fun e w' => ∃ v', e = .returned v' ∧ OL 58 3 w.heap.size (FrK w.heap.size (N * (k + k + 1) + 1)) w' v' (timesM rows xs) ∧ Ext w w' := by
 obtain ⟨ad, n, cap, hnl, rfl, hn1, hat⟩ := hv.at
 rw [← hnl] at hn
 obtain ⟨K, hK⟩ : ∃ K, K = N * (k + k + 1) + 1 := ⟨_, rfl⟩
 rw [← hK]
 have HK := Lib.hid hK
 have HN := Lib.hid hnl
 have HAT := Lib.hid hat
 have HX := Lib.hid hx
 have HL := Lib.hid hN
 have eb := emptyQ
 clear hnl hat hv hx hN hK
 go_enter Tryz.func22, Tryz.ntmps22
 go_wp2_with fail
 go_loopw [5, 6] (fun s5 s6 wr => ∃ (i : Nat) (ado : Option Addr) (capo : Nat), i ≤ n ∧ s6 = .int .i64 (i : Int) ∧ s5 = .slice ado i capo ∧ Hid (OL 58 3 w.heap.size (FrK w.heap.size K) wr (.slice ado i capo) (timesM (rows.take i) xs)) ∧ Ext w wr) (fun _ s6 _ => ((n : Int) - intOf s6).toNat)
 case atStart => exact ⟨0, some ⟨w.heap.size, 0, none⟩, 0, Nat.zero_le _, rfl, rfl, Lib.hid ⟨[], LS.empty _ _ _ _ (Nat.le_refl _), rfl, fun i u y h => by simp at h⟩, (Ext.refl _).alloc _⟩
 case round =>
  obtain ⟨i, ado, capo, hi, rfl, rfl, hS, hE0⟩ := hrel
  rcases Nat.eq_or_lt_of_le hi with hin | hin
  ·subst hin
   have hlt : ¬ ((i : Int) < (i : Int)) := by omega
   have hT := hS.out
   rw [show rows.take i = rows by rw [HN.out, List.take_length]] at hT
   have HT := Lib.hid hT
   clear hT
   go_wp2
   go_ret
   exact ⟨_, rfl, HT.out, hE0⟩
  ·have hlt : (i : Int) < (n : Int) := by omega
   obtain ⟨r, hr⟩ : ∃ x, rows[i]? = some x := ⟨_, List.getElem?_eq_getElem (by rw [← HN.out]; exact hin)⟩
   obtain ⟨g, off, rfl, a1, n1, c1, hcell, hTL⟩ := HAT.out i _ hr
   have hc0 := hcell wr hE0
   obtain ⟨vs, hls, hvl, hvs⟩ := hS.out
   have hvi : vs.length = i := by rw [hvl]; unfold timesM; rw [List.length_map, List.length_take, ← HN.out]; omega
   have htk := take_next hr
   have hrN := HL.out r (List.mem_of_getElem? hr)
   subst hvi
   have HTK := Lib.hid htk
   have HLS := Lib.hid hls
   have HV := Lib.hid (And.intro hvl hvs)
   have HR := Lib.hid (And.intro hTL hrN)
   have hwr := hE0.size
   have hszd : szQ (dotV r xs) ≤ K := by
    have h1 := sz_dot hTL.szs HX.out.szs
    have h2 : r.length * (k + k + 1) ≤ N * (k + k + 1) := Nat.mul_le_mul_right _ hrN
    have := HK.out
    omega
   have HSZ := Lib.hid hszd
   clear hcell hr hls hvl hvs htk hTL hrN hS hszd
   go_wp2_with fail
   refine (dot5_calls k _ _ r xs wr (HR.out.1.ext hE0) (HX.out.ext hE0) hk (by have := HR.out.2; omega) hnx).mono ?_
   rintro e w5 ⟨v5, rfl, r5, s5, e5⟩
   have H5 := Lib.hid (And.intro r5 s5)
   clear r5 s5 hc0
   go_wp2_with fail
   refine (rqto3_calls _ (dotV r xs) w5 H5.out.1.cq H5.out.2).mono ?_
   rintro e w6 ⟨v6, rfl, r6, e6'⟩
   have e6 := e5.trans e6'
   obtain ⟨b6, a6, l6, k6, a6', l6', k6', rfl, r6⟩ := r6.opn
   have hs5 := e5.size
   have HR6 := Lib.hid (show FrK w.heap.size K w6 _ (dotV r xs) from ⟨r6.mono (by omega), HSZ.out⟩)
   have hs6 := e6.size
   clear r6 H5 e5 e6'
   go_wp2_with (first
    | (at_builtin; go_loud (refine wpList_append_LS rfl _ _ 36 rfl 58 3 56 w.heap.size Tryz.underlying36 (by kernel_rfl) (by kernel_rfl) (by omega) _ vs rfl (HLS.out.ext (e6.trans ((Ext.refl _).alloc _))) ⟨w6.heap.size, 0, none⟩ #[.bool b6, .slice a6 l6 k6, .slice a6' l6' k6'] rfl rfl (news_new _ _ _) (by kernel_rfl) (by omega) (by omega) (by rw [alloc_size]; omega) ?_); intro g' cap2' w7 hls7 hg7 hwh7 hlt7)
    | fail)
   go_roundw
   case rel =>
    have hA := (Ext.refl w6).alloc (.cells #[.bool b6, .slice a6 l6 k6, .slice a6' l6' k6'] 58)
    refine ⟨vs.length + 1, some ⟨g', 0, none⟩, cap2', by omega, by simp, rfl, Lib.hid ?_, ((hE0.trans e6).trans hA).stepG hg7 HLS.out.ge⟩
    have hLA := HLS.out.ext (e6.trans hA)
    have e : timesM (rows.take (vs.length + 1)) xs = timesM (rows.take vs.length) xs ++ [dotV r xs] := by rw [HTK.out]; unfold timesM; rw [List.map_append]; rfl
    rw [e]
    exact OL.app (w := w6.alloc (.cells #[.bool b6, .slice a6 l6 k6, .slice a6' l6' k6'] 58)) HV.out.1 (fun i u y h1 h2 => FrK.ext (HV.out.2 i u y h1 h2) (e6.trans hA)) hls7 (fun u y h => FrK.grow h hLA hg7) (FrK.grow (FrK.ext HR6.out hA) hLA hg7)
   case measure => simp [intOf]; omega
set_option maxHeartbeats 4000000 in
theorem timesT6_calls (ky k N M K : Nat) (yv v : Value) (ys : List Rat) (rows : List (List (Int × Rat))) (w : World) (hy : QL ky w yv ys) (hv : ML k w v rows) (hN : ∀ r ∈ rows, r.length ≤ N) (hM : min ys.length rows.length ≤ M) (h30 : M * N + N ≤ 1000) (hK1 : ky ≤ K) (hK2 : k ≤ K) (hK3 : M * N * (ky + k + 1) + 1 ≤ K) (hK : K + K ≤ 1000000) :
  Calls Tryz.prog 24 #[yv, v] w fun e w' => ∃ v', e = .returned v' ∧ TO w.heap.size (M * N * (ky + k + 1) + 1) w' v' (mkV (catN ys rows (min ys.length rows.length))) ∧ Ext w w' := by
 obtain ⟨ady, ny, capy, hny, rfl, hny1, haty⟩ := hy.at
 obtain ⟨ad, n, cap, hnl, rfl, hn1, hat⟩ := hv.at
 obtain ⟨C, hC⟩ : ∃ C, C = M * N * (ky + k + 1) + 1 := ⟨_, rfl⟩
 rw [← hC] at hK3 ⊢
 have HC := Lib.hid hC
 obtain ⟨m, hm⟩ : ∃ m, m = min ny n := ⟨_, rfl⟩
 have HMIN := Lib.hid hm
 have HSY := Lib.hid hy.szs
 have HSR := Lib.hid hv.szs
 have HNY := Lib.hid hny
 have HN := Lib.hid hnl
 have HATY := Lib.hid haty
 have HAT := Lib.hid hat
 have HL := Lib.hid hN
 have eb := emptyT
 rw [← hny, ← hnl, ← hm] at hM ⊢
 clear hny hnl haty hat hv hy hN hC hm
 go_enter Tryz.func24, Tryz.ntmps24
 go_wp2_with fail
 go_loopw [5, 6] (fun s5 s6 wr => ∃ (i : Nat) (sv : Value), i ≤ m ∧ s6 = .int .i64 (i : Int) ∧ sv = s5 ∧ Hid (TO w.heap.size C wr sv (mkV (catN ys rows i))) ∧ Ext w wr) (fun _ s6 _ => ((m : Int) - intOf s6).toNat)
 case atStart => exact ⟨0, _, Nat.zero_le _, rfl, rfl, Lib.hid (TO.empty _ _ _ (Nat.le_refl _)), (Ext.refl _).alloc _⟩
 case round =>
  obtain ⟨i, sv, hi, rfl, rfl, HSV, hE0⟩ := hrel
  by_cases hin : i < n
  ·by_cases hiy : i < ny
   ·have hltn : (i : Int) < (n : Int) := by omega
    have hlty : (i : Int) < (ny : Int) := by omega
    have him : i < m := by have := HMIN.out; omega
    obtain ⟨y, hy⟩ : ∃ x, ys[i]? = some x := ⟨_, List.getElem?_eq_getElem (by rw [← HNY.out]; omega)⟩
    obtain ⟨r, hr⟩ : ∃ x, rows[i]? = some x := ⟨_, List.getElem?_eq_getElem (by rw [← HN.out]; omega)⟩
    obtain ⟨gy, offy, rfl, yb, y1, z1, p1, y2, z2, p2, hycell, hyR⟩ := HATY.out i _ hy
    obtain ⟨g, off, rfl, a1, n1, c1, hcell, hTL⟩ := HAT.out i _ hr
    have hc0 := hcell wr hE0
    have HCY := Lib.hid hycell
    have HCR := Lib.hid hcell
    have HYR := Lib.hid hyR
    have HTL := Lib.hid hTL
    have hcat := catN_snoc hy hr
    have HCAT := Lib.hid hcat
    have hrN := HL.out r (List.mem_of_getElem? hr)
    have hcl : (catN ys rows i).length ≤ i * N := catN_len HL.out i
    have hil : i * N ≤ M * N := Nat.mul_le_mul_right _ (by omega)
    have hml := mkV_len (catN ys rows i)
    have hi1 : i + 1 ≤ ys.length := by rw [← HNY.out]; omega
    have hi2 : i + 1 ≤ rows.length := by rw [← HN.out]; omega
    have hcl1 : (catN ys rows (i + 1)).length ≤ (i + 1) * N := catN_len HL.out (i + 1)
    have hil1 : (i + 1) * N ≤ M * N := Nat.mul_le_mul_right _ (by omega)
    have hsz : ∀ x ∈ mkV (catN ys rows (i + 1)), szQ x.2 ≤ C := sz_le (catN_szs HSY.out HSR.out hi1 hi2) (Nat.le_trans hcl1 hil1) (by rw [HC.out]; omega)
    have HSZ := Lib.hid hsz
    have HAX := Lib.hid (show (mkV (catN ys rows i)).length + r.length ≤ 1000 by omega)
    have hwr := hE0.size
    clear hy hr hycell hcell hyR hTL hcat hrN hcl hil hml hi1 hi2 hcl1 hil1 hsz
    go_wp2_with fail
    clear hc0
    refine wp_region_puts [] [PP.val (.slice (some ⟨gy, offy, none⟩) ny capy), PP.val (.int .i64 (i : Int)), PP.val (.pointer (some ⟨gy, offy + i * 3, none⟩)), PP.val (.agg #[.bool yb, .slice y1 z1 p1, .slice y2 z2 p2]), PP.val (.slice (some ⟨g, off, none⟩) n cap), PP.val (.int .i64 (i : Int)), PP.val (.pointer (some ⟨g, off + i, none⟩)), PP.val (.slice a1 n1 c1), PP.val (sv), PP.tO C (mkV (catN ys rows (i + 1))), PP.tO C (mkV (catN ys rows (i + 1)))] [(8, 10, 5)] [0, 1, 2, 3, 4, 5, 6, 7, 8, 9, 10]
     (by kernel_rfl) (by kernel_rfl) (fun f => (by simp only [fillR, fillL, List.setIfInBounds_toArray, List.set_cons_succ, List.set_cons_zero, Nat.reduceAdd]; rfl)) ?_ ?_ ?_ ?_ ?_
    ·intro x hx; cases hx
    ·intro x hx; cases hx
    ·intro x hx; cases hx
    ·refine ⟨?o0, ?o1, ?o2, ?o3, ?o4, ?o5, ?o6, ?o7, ?o8, ?o9, ?o10, trivial⟩
     case o0 =>
      intro f w6 hG hp hl
      have hE : Ext wr w6 := hG
      have hS := hE.size
      simp only [OpGoal]
      go_simp
      exact ⟨_, rfl, Ext.refl _, rfl⟩
     case o1 =>
      intro f w6 hG hp hl
      have hE : Ext wr w6 := hG
      have hS := hE.size
      simp only [OpGoal]
      go_simp
      exact ⟨_, rfl, Ext.refl _, rfl⟩
     case o2 =>
      intro f w6 hG hp hl
      have hE : Ext wr w6 := hG
      have hS := hE.size
      have q20 : f 0 = .slice (some ⟨gy, offy, none⟩) ny capy := tellV hp 0 0 rfl rfl (fun h => by cases h)
      have q21 : f 1 = .int .i64 (i : Int) := tellV hp 1 1 rfl rfl (fun h => by cases h)
      simp only [OpGoal]
      go_simp
      exact ⟨_, rfl, Ext.refl _, rfl⟩
     case o3 =>
      intro f w6 hG hp hl
      have hE : Ext wr w6 := hG
      have hS := hE.size
      have q22 : f 2 = .pointer (some ⟨gy, offy + i * 3, none⟩) := tellV hp 0 2 rfl rfl (fun h => by cases h)
      change OpGoal _ _ _ f w6 Ext _
      exact og_loadAt (P := Tryz.prog) _ _ gy (offy + i * 3) _ _ rfl rfl q22 (fun j v h => HCY.out _ (hE0.trans hE) j v h) Tryz.underlying58 rfl (by kernel_rfl) rfl
     case o4 =>
      intro f w6 hG hp hl
      have hE : Ext wr w6 := hG
      have hS := hE.size
      simp only [OpGoal]
      go_simp
      exact ⟨_, rfl, Ext.refl _, rfl⟩
     case o5 =>
      intro f w6 hG hp hl
      have hE : Ext wr w6 := hG
      have hS := hE.size
      simp only [OpGoal]
      go_simp
      exact ⟨_, rfl, Ext.refl _, rfl⟩
     case o6 =>
      intro f w6 hG hp hl
      have hE : Ext wr w6 := hG
      have hS := hE.size
      have q24 : f 4 = .slice (some ⟨g, off, none⟩) n cap := tellV hp 0 4 rfl rfl (fun h => by cases h)
      have q25 : f 5 = .int .i64 (i : Int) := tellV hp 1 5 rfl rfl (fun h => by cases h)
      simp only [OpGoal]
      go_simp
      exact ⟨_, rfl, Ext.refl _, rfl⟩
     case o7 =>
      intro f w6 hG hp hl
      have hE : Ext wr w6 := hG
      have hS := hE.size
      have q26 : f 6 = .pointer (some ⟨g, off + i, none⟩) := tellV hp 0 6 rfl rfl (fun h => by cases h)
      have hcell := HCR.out _ (hE0.trans hE)
      simp only [OpGoal]
      go_simp
      exact ⟨_, rfl, Ext.refl _, rfl⟩
     case o8 =>
      intro f w6 hG hp hl
      have hE : Ext wr w6 := hG
      have hS := hE.size
      have l5 : f 10 = sv := hl.1 rfl
      simp only [OpGoal]
      go_simp
      exact ⟨_, rfl, Ext.refl _, rfl⟩
     case o9 =>
      intro f w6 hG hp hl
      have hE : Ext wr w6 := hG
      have hS := hE.size
      have q23 : f 3 = .agg #[.bool yb, .slice y1 z1 p1, .slice y2 z2 p2] := tellV hp 0 3 rfl rfl (fun h => by cases h)
      have q27 : f 7 = .slice a1 n1 c1 := tellV hp 1 7 rfl rfl (fun h => by cases h)
      have q28 : f 8 = sv := tellV hp 2 8 rfl rfl (fun h => by cases h)
      change OpGoal _ _ _ f w6 Ext _
      refine og_call (P := Tryz.prog) _ _ _ #[f 3, f 7, f 8] Tryz.func52 (by kernel_rfl) (by kernel_rfl) rfl rfl (by kernel_rfl) ?_
      rw [q23, q27, q28]
      refine (axpy5_calls K (K + K) _ _ _ y r (mkV (catN ys rows i)) _ ((HYR.out.ext (hE0.trans hE)).mono hK1) ((HTL.out.ext (hE0.trans hE)).le hK2) ((((HSV.out.ext hE).le hK3)).tl (by rw [LIM_eq]; omega)) (by omega) hK HAX.out).mono ?_
      rintro e w' ⟨v', rfl, h1, h2⟩
      rw [mk_more, ← HCAT.out] at h1
      exact ⟨v', rfl, h2, (h1.to HSZ.out).mono hS⟩
     case o10 =>
      intro f w6 hG hp hl
      have hE : Ext wr w6 := hG
      have hS := hE.size
      have q29 := tellV hp 0 9 rfl rfl (fun _ => hE)
      exact ⟨_, rfl, Ext.refl _, q29⟩
    ·intro f w6 hG hp
     have hE : Ext wr w6 := ChgS.nil hG
     have q5 := endV hp 10 (by decide) rfl (fun _ => hE)
     clear hp
     have HQ := Lib.hid (show TO wr.heap.size C w6 _ (mkV (catN ys rows (i + 1))) from q5)
     clear q5
     go_wp2
     go_roundw
     case rel => exact ⟨i + 1, _, by omega, congrArg (Value.int .i64) (by omega), rfl, Lib.hid (HQ.out.mono hwr), hE0.trans hE⟩
     case measure => simp [intOf]; omega
   ·have hltn : (i : Int) < (n : Int) := by omega
    have hlty : ¬ (i : Int) < (ny : Int) := by omega
    have hdy : decide ((i : Int) < (ny : Int)) = false := decide_eq_false hlty
    have hT : Hid (TO w.heap.size C wr sv (mkV (catN ys rows m))) := Lib.hid (by rw [show m = i by have := HMIN.out; omega]; exact HSV.out)
    go_wp2
    go_ret
    exact ⟨_, rfl, hT.out, hE0⟩
  ·have hltn : ¬ (i : Int) < (n : Int) := by omega
   have hT : Hid (TO w.heap.size C wr sv (mkV (catN ys rows m))) := Lib.hid (by rw [show m = i by have := HMIN.out; omega]; exact HSV.out)
   go_wp2
   go_ret
   exact ⟨_, rfl, hT.out, hE0⟩
def getN (r : List (Int × Rat)) (n : Nat) : List Rat := (List.range n).map fun (j : Nat) => getV r (j : Int)
theorem getN_len (r : List (Int × Rat)) (n : Nat) : (getN r n).length = n := by unfold getN; simp
theorem getN_succ (r : List (Int × Rat)) (n : Nat) : getN r (n + 1) = getN r n ++ [getV r (n : Int)] := by unfold getN; rw [List.range_succ, List.map_append]; rfl
theorem getN_pr (r : List (Int × Rat)) (b : List (List (Int × Rat))) : mkV (catN (getN r b.length) b (min (getN r b.length).length b.length)) = prV r b := by
 rw [getN_len, Nat.min_self]
 exact prV_doc r b _ fun j hj => by unfold getN; simp [hj]
set_option maxHeartbeats 8000000 in
theorem product6_calls (ka kb N Nb M K : Nat) (v u : Value) (a b : List (List (Int × Rat))) (w : World) (ha : ML ka w v a) (hb : ML kb w u b) (hN : ∀ r ∈ a, r.length ≤ N) (hNb : ∀ r ∈ b, r.length ≤ Nb) (hn : a.length ≤ 1000000) (hM : b.length ≤ M) (hM2 : M ≤ 1000) (hN2 : N ≤ 6000) (hka : ka ≤ 1000000)
  (h30 : M * Nb + Nb ≤ 1000) (hK1 : N * (ka + 1) + 1 ≤ K) (hK2 : kb ≤ K) (hK3 : M * Nb * (N * (ka + 1) + 1 + kb + 1) + 1 ≤ K) (hK : K + K ≤ 1000000) :
  Calls Tryz.prog 15 #[v, u] w fun e w' => ∃ v', e = .returned v' ∧ MO w.heap.size (M * Nb * (N * (ka + 1) + 1 + kb + 1) + 1) w' v' (a.map fun r => prV r b) ∧ Ext w w' := by
 obtain ⟨ad, n, cap, hnl, rfl, hn1, hat⟩ := ha.at
 obtain ⟨adb, nb, capb, hnb, rfl, hnb1, hatb⟩ := hb.at
 obtain ⟨KA, hKA⟩ : ∃ KA, KA = N * (ka + 1) + 1 := ⟨_, rfl⟩
 rw [← hKA] at hK1 hK3 ⊢
 obtain ⟨C, hC⟩ : ∃ C, C = M * Nb * (KA + kb + 1) + 1 := ⟨_, rfl⟩
 rw [← hC]
 rw [← hnl] at hn
 have hM' := hM
 rw [← hnb] at hM'
 have HK3 := Lib.hid hK3
 have HKA := Lib.hid hKA
 have HC := Lib.hid hC
 have HB := Lib.hid hb
 have HN := Lib.hid hnl
 have HNB := Lib.hid hnb
 have HMB := Lib.hid hM
 have HAT := Lib.hid hat
 have HL := Lib.hid hN
 have HLB := Lib.hid hNb
 have eb := emptyM
 have eq := emptyQ
 clear hnl hnb hat hatb ha hb hN hNb hC hK3 hKA hM
 go_enter Tryz.func15, Tryz.ntmps15
 go_wp2_with fail
 go_loopw [5, 6] (fun s5 s6 wr => ∃ (i : Nat) (ado : Option Addr) (capo : Nat), i ≤ n ∧ s6 = .int .i64 (i : Int) ∧ s5 = .slice ado i capo ∧ Hid (MO w.heap.size C wr (.slice ado i capo) ((a.take i).map fun r => prV r b)) ∧ Ext w wr) (fun _ s6 _ => ((n : Int) - intOf s6).toNat)
 case atStart => exact ⟨0, some ⟨w.heap.size, 0, none⟩, 0, Nat.zero_le _, rfl, rfl, Lib.hid (OV.empty _ _ _ _ (Nat.le_refl _)), (Ext.refl _).alloc _⟩
 case round =>
  obtain ⟨i, ado, capo, hi, rfl, rfl, hS, hE0⟩ := hrel
  rcases Nat.eq_or_lt_of_le hi with hin | hin
  ·subst hin
   have hlt : ¬ ((i : Int) < (i : Int)) := by omega
   have hT := hS.out
   rw [show a.take i = a by rw [HN.out, List.take_length]] at hT
   have HT := Lib.hid hT
   clear hT
   go_wp2
   go_ret
   exact ⟨_, rfl, HT.out, hE0⟩
  ·have hlt : (i : Int) < (n : Int) := by omega
   obtain ⟨r, hr⟩ : ∃ x, a[i]? = some x := ⟨_, List.getElem?_eq_getElem (by rw [← HN.out]; exact hin)⟩
   obtain ⟨g, off, rfl, a1, n1, c1, hcell, hTL⟩ := HAT.out i _ hr
   have HCE := Lib.hid hcell
   have HTK := Lib.hid (take_next hr)
   have hrN := HL.out r (List.mem_of_getElem? hr)
   have HR := Lib.hid (And.intro hTL hrN)
   have hwr := hE0.size
   have hgs : ∀ c, szQ (getV r c) ≤ KA := fun c => by
    have h1 := sz_get hTL.szs c
    have h2 : r.length * (ka + 1) ≤ N * (ka + 1) := Nat.mul_le_mul_right _ hrN
    have := HKA.out
    omega
   have HGS := Lib.hid hgs
   have HSv := Lib.hid hS.out
   clear hcell hr hTL hgs hS
   go_wp2_with fail
   obtain ⟨wo, hwo⟩ : ∃ wo : World, wo = wr := ⟨_, rfl⟩
   rw [← hwo] at hE0 hwr HSv ⊢
   clear hwo
   go_loopw [7, 8] (fun s7 s8 wr => ∃ (j : Nat) (adp : Option Addr) (capp : Nat), j ≤ nb ∧ s8 = .int .i64 (j : Int) ∧ s7 = .slice adp j capp ∧ Hid (OL 58 3 wo.heap.size (FrK wo.heap.size KA) wr (.slice adp j capp) (getN r j)) ∧ Ext wo wr) (fun _ s8 _ => ((nb : Int) - intOf s8).toNat)
   case atStart => exact ⟨0, some ⟨wo.heap.size, 0, none⟩, 0, Nat.zero_le _, rfl, rfl, Lib.hid ⟨[], LS.empty _ _ _ _ (Nat.le_refl _), rfl, fun i u y h => by simp at h⟩, (Ext.refl _).alloc _⟩
   case round =>
    obtain ⟨j, adp, capp, hj, rfl, rfl, hP, hEj⟩ := hrel
    have hEw := hE0.trans hEj
    have hwj := hEj.size
    rcases Nat.eq_or_lt_of_le hj with hjn | hjn
    ·subst hjn
     have hlt2 : ¬ ((j : Int) < (j : Int)) := by omega
     have HQ := Lib.hid (OL.ql hP.out (by rw [LIM_eq]; omega))
     go_wp2_with fail
     refine (timesT6_calls KA kb Nb M K _ _ (getN r j) b wr HQ.out (HB.out.ext hEw) HLB.out (by rw [getN_len]; have := HMB.out; omega) h30 hK1 hK2 HK3.out hK).mono ?_
     rintro e w6 ⟨v6, rfl, r6, e6⟩
     rw [← HC.out] at r6
     have e6s := hEj.trans e6
     obtain ⟨vs, hls, hvl, hvs⟩ := HSv.out.ext e6s
     have hvi : vs.length = i := by rw [hvl, List.length_map, List.length_take, ← HN.out]; omega
     subst hvi
     have hPP : TO w.heap.size C w6 v6 (prV r b) := by
      have h2 := getN_pr r b
      rw [← HNB.out] at h2
      rw [← h2]
      have := HNB.out
      have h3 : min (getN r j).length b.length = min (getN r j).length j := by rw [← this]
      rw [h3] at r6
      exact r6.mono (by omega)
     obtain ⟨ads, caps, hsv⟩ := hPP.val
     rw [hsv] at hPP ⊢
     have HP := Lib.hid hPP
     have HLS := Lib.hid hls
     have HV := Lib.hid (And.intro hvl hvs)
     have hge := ownsRow_ge hls
     have HGE := Lib.hid hge
     have hE6 := hEw.trans e6
     have hs6 := hE6.size
     clear hPP hls hvl hvs HSv hge hsv r6 hP HQ
     go_wp2_with (first
      | (at_builtin; go_loud (refine wpList_append_V rfl _ _ 22 rfl 40 24 w.heap.size Tryz.underlying22 (by kernel_rfl) (by kernel_rfl) _ vs.length vs rfl (ownsRow_extI HLS.out ((Ext.refl _).alloc _)) ⟨w6.heap.size, 0, none⟩ (.slice ads (prV r b).length caps) rfl (cell_one_new _ _ _) rfl (by omega) (by omega) (by rw [alloc_size]; omega) ?_); intro g' cap2' w7 hls7 hg7 hwh7 hlt7)
      | fail)
     go_roundw
     case rel =>
      have hA := (Ext.refl w6).alloc (.cells #[.slice ads (prV r b).length caps] 40)
      refine ⟨vs.length + 1, some ⟨g', 0, none⟩, cap2', by omega, by simp, rfl, Lib.hid ?_, (hE6.trans hA).stepG hg7 HGE.out⟩
      have hLA := ownsRow_extI HLS.out hA
      rw [HTK.out, List.map_append]
      exact OV.app (w := w6.alloc (.cells #[.slice ads (prV r b).length caps] 40)) HV.out.1 (fun i u y h1 h2 => (HV.out.2 i u y h1 h2).ext hA) rfl hls7 (fun u y h => TO.grow h hLA hg7 (by decide) (by decide)) (TO.grow (HP.out.ext hA) hLA hg7 (by decide) (by decide))
     case measure => simp [intOf]; omega
    ·have hlt2 : (j : Int) < (nb : Int) := by omega
     have hc0 := HCE.out wr hEw
     obtain ⟨vs, hls, hvl, hvs⟩ := hP.out
     have hvi : vs.length = j := by rw [hvl, getN_len]
     subst hvi
     have HLS := Lib.hid hls
     have HV := Lib.hid (And.intro hvl hvs)
     clear hls hvl hvs hP
     go_wp2_with fail
     refine (get5_calls ka _ ((vs.length : Nat) : Int) r wr (HR.out.1.ext hEw) hka (by have := HR.out.2; omega)).mono ?_
     rintro e w5 ⟨v5, rfl, r5, s5, e5⟩
     have hs5' : szD (getV r ((vs.length : Nat) : Int)) ≤ 68719476736 := by
      have := szD_of (HGS.out ((vs.length : Nat) : Int))
      omega
     have H5 := Lib.hid (And.intro r5 hs5')
     clear r5 s5 hs5' hc0
     go_wp2_with fail
     refine (rqto3_calls _ (getV r ((vs.length : Nat) : Int)) w5 H5.out.1.cq H5.out.2).mono ?_
     rintro e w6 ⟨v6, rfl, r6, e6'⟩
     have e6 := e5.trans e6'
     obtain ⟨b6, a6, l6, k6, a6', l6', k6', rfl, r6⟩ := r6.opn
     have hs5 := e5.size
     have HR6 := Lib.hid (show FrK wo.heap.size KA w6 _ (getV r ((vs.length : Nat) : Int)) from ⟨r6.mono (by omega), HGS.out _⟩)
     have hs6 := e6.size
     clear r6 H5 e5 e6'
     go_wp2_with (first
      | (at_builtin; go_loud (refine wpList_append_LS rfl _ _ 36 rfl 58 3 56 wo.heap.size Tryz.underlying36 (by kernel_rfl) (by kernel_rfl) (by omega) _ vs rfl (HLS.out.ext (e6.trans ((Ext.refl _).alloc _))) ⟨w6.heap.size, 0, none⟩ #[.bool b6, .slice a6 l6 k6, .slice a6' l6' k6'] rfl rfl (news_new _ _ _) (by kernel_rfl) (by omega) (by omega) (by rw [alloc_size]; omega) ?_); intro g' cap2' w7 hls7 hg7 hwh7 hlt7)
      | fail)
     go_roundw
     case rel =>
      have hA := (Ext.refl w6).alloc (.cells #[.bool b6, .slice a6 l6 k6, .slice a6' l6' k6'] 58)
      refine ⟨vs.length + 1, some ⟨g', 0, none⟩, cap2', by omega, by simp, rfl, Lib.hid ?_, ((hEj.trans e6).trans hA).stepG hg7 HLS.out.ge⟩
      have hLA := HLS.out.ext (e6.trans hA)
      rw [getN_succ]
      exact OL.app (w := w6.alloc (.cells #[.bool b6, .slice a6 l6 k6, .slice a6' l6' k6'] 58)) HV.out.1 (fun i u y h1 h2 => FrK.ext (HV.out.2 i u y h1 h2) (e6.trans hA)) hls7 (fun u y h => FrK.grow h hLA hg7) (FrK.grow (FrK.ext HR6.out hA) hLA hg7)
     case measure => simp [intOf]; omega
end Go.Proofs.YtdmjgjcljbogiaaGreat
/-
 The law MatTimes.
-/
namespace Go.Proofs.YtdmjgjcljbogiaaGreat
set_option maxRecDepth 100000
set_option maxHeartbeats 1000000
open Go.RowKit
set_option linter.unusedVariables false
set_option linter.unusedSimpArgs false
theorem ratT_len (ms : List (List TE)) {n : Nat} (h : ∀ l ∈ ms, l.length ≤ n) : ∀ r ∈ ms.map ratT, r.length ≤ n := by
 intro r hr
 obtain ⟨l, hl, rfl⟩ := List.mem_map.1 hr
 unfold ratT
 rw [List.length_map]
 exact h l hl
set_option maxHeartbeats 8000000 in
theorem matTimes_calls (v u z : Value) (ms : List (List TE)) (xl yl : List RE) (w : World) (hv : MLE w v ms) (hb : ms.length ≤ 281474976710656) (hu : SLQ w u xl) (hz : SLQ w z yl) :
  Calls Tryz.prog 4 #[v, u, z] w fun e w' => e = .returned (.bool true) ∧ Ext w w' := by
 have HV := Lib.hid hv
 have HU := Lib.hid hu
 have HZ := Lib.hid hz
 have lim : (100000 : Nat) ≤ LIM := by rw [LIM_eq]; omega
 clear hv hu hz
 go_enter Tryz.func4, Tryz.ntmps4
 go_wp2_with fail
 refine (speaks6_calls _).mono ?_
 rintro e w2 ⟨rfl, e2⟩
 go_wp2_with fail
 refine (greatM_calls _ ms w2 (HV.out.ext e2) hb).mono ?_
 rintro e w3 ⟨rfl, e3⟩
 obtain ⟨p, hp⟩ : ∃ p, p = greatM ms := ⟨_, rfl⟩
 rw [← hp]
 have HP := Lib.hid hp
 clear hp
 have E3 := e2.trans e3
 cases p with
 | true =>
  go_wp2
  go_ret
  exact ⟨rfl, E3⟩
 | false =>
 go_wp2_with fail
 refine (greatAll_calls _ xl w3 (HU.out.ext E3)).mono ?_
 rintro e w4 ⟨rfl, e4⟩
 obtain ⟨q, hq⟩ : ∃ q, q = greatE xl := ⟨_, rfl⟩
 rw [← hq]
 have HQ := Lib.hid hq
 clear hq
 have E4 := E3.trans e4
 cases q with
 | true =>
  go_wp2
  go_ret
  exact ⟨rfl, E4⟩
 | false =>
 go_wp2_with fail
 refine (greatAll_calls _ yl w4 (HZ.out.ext E4)).mono ?_
 rintro e w5 ⟨rfl, e5⟩
 obtain ⟨s, hs⟩ : ∃ s, s = greatE yl := ⟨_, rfl⟩
 rw [← hs]
 have HR := Lib.hid hs
 clear hs
 have E5 := E4.trans e5
 cases s with
 | true =>
  go_wp2
  go_ret
  exact ⟨rfl, E5⟩
 | false =>
 obtain ⟨m1, m2⟩ := greatM_not HP.out.symm
 obtain ⟨x1, x2⟩ := greatE_not HQ.out.symm
 obtain ⟨y1, y2⟩ := greatE_not HR.out.symm
 have HM2 := Lib.hid m2
 have HX2 := Lib.hid x2
 have HY2 := Lib.hid y2
 obtain ⟨M, hM⟩ : ∃ M, M = ms.map ratT := ⟨_, rfl⟩
 obtain ⟨X, hX⟩ : ∃ X, X = xl.map ratE := ⟨_, rfl⟩
 obtain ⟨Y, hY⟩ : ∃ Y, Y = yl.map ratE := ⟨_, rfl⟩
 have hMl : M.length ≤ 12 := by rw [hM, List.length_map]; exact m1
 have hXl : X.length ≤ 30 := by rw [hX, List.length_map]; exact x1
 have hYl : Y.length ≤ 30 := by rw [hY, List.length_map]; exact y1
 have HML := Lib.hid (show ∀ r ∈ M, r.length ≤ 30 by rw [hM]; exact ratT_len ms fun l hl => (m2 l hl).1)
 have toM : ∀ {w' : World} {v' : Value}, MLE w' v' ms → ML 6 w' v' M := fun h => by rw [hM]; exact h.ml 6 (by omega) (by omega) fun l hl e he => (m2 l hl).2 e he
 have toX : ∀ {w' : World} {v' : Value}, SLQ w' v' xl → QL 6 w' v' X := fun h => by rw [hX]; exact h.ql 6 (by omega) (by omega) x2
 have toY : ∀ {w' : World} {v' : Value}, SLQ w' v' yl → QL 6 w' v' Y := fun h => by rw [hY]; exact h.ql 6 (by omega) (by omega) y2
 have TM := Lib.hid (And.intro @toM (And.intro @toX @toY))
 clear m2 x2 y2 hM hX hY toM toX toY HP HQ HR e2 e3 e4 e5 E3 E4
 go_wp2_with fail
 refine (copyM_calls _ ms w5 (HV.out.ext E5) (by omega) HM2.out).mono ?_
 rintro e w6 ⟨v6, rfl, r6, e6⟩
 have C6 := Lib.hid r6
 have E6 := E5.trans e6
 clear r6
 go_wp2_with fail
 refine (copyAll_calls _ xl w6 (HU.out.ext E6) (by omega) HX2.out).mono ?_
 rintro e w7 ⟨v7, rfl, r7, e7⟩
 have C7 := Lib.hid r7
 have E7 := E6.trans e7
 clear r7
 go_wp2_with fail
 refine (copyAll_calls _ yl w7 (HZ.out.ext E7) (by omega) HY2.out).mono ?_
 rintro e w8 ⟨v8, rfl, r8, e8⟩
 have C8 := Lib.hid r8
 have E8 := E7.trans e8
 have E68 := e7.trans e8
 clear r8 E5 E6 E7
 go_wp2_with fail
 refine (times_calls 6 6 30 _ _ M X w8 (TM.out.1 (C6.out.ext E68)) (TM.out.2.1 (C7.out.ext e8)) HML.out (by omega) (by omega)).mono ?_
 rintro e w9 ⟨v9, rfl, r9, e9⟩
 have R9 := Lib.hid r9
 have E9 := E8.trans e9
 clear r9
 go_wp2_with fail
 refine (timesT_calls 6 6 30 12 _ _ Y M w9 (TM.out.2.2 (C8.out.ext e9)) (TM.out.1 (C6.out.ext (E68.trans e9))) HML.out (by omega) (by omega) (by omega)).mono ?_
 rintro e w10 ⟨v10, rfl, r10, e10⟩
 have R10 := Lib.hid r10
 have E10 := E9.trans e10
 clear r10
 go_wp2_with fail
 refine (times6_calls 6 30 _ _ M X w10 (TM.out.1 (HV.out.ext E10)) (TM.out.2.1 (HU.out.ext E10)) (by omega) HML.out (by omega) (by omega) (by omega)).mono ?_
 rintro e w11 ⟨v11, rfl, r11, e11⟩
 have R11 := Lib.hid r11
 have E11 := E10.trans e11
 clear r11
 have hS := (OL.slq R9.out (by omega)).ext (e10.trans e11)
 have HSS := Lib.hid (And.intro hS (OL.slq R11.out (by omega)))
 clear hS
 go_wp2_with fail
 refine (sameAll_true _ _ _ w11 HSS.out.1 HSS.out.2).mono ?_
 rintro e w12 ⟨rfl, e12⟩
 have E12 := E11.trans e12
 clear HSS R9 R11
 go_wp2_with fail
 refine (timesT6_calls 6 6 30 12 4681 _ _ Y M w12 (TM.out.2.2 (HZ.out.ext E12)) (TM.out.1 (HV.out.ext E12)) HML.out (by omega) (by omega) (by omega) (by omega) (by omega) (by omega)).mono ?_
 rintro e w13 ⟨v13, rfl, r13, e13⟩
 have E13 := E12.trans e13
 have hT := (R10.out.ext ((e11.trans e12).trans e13)).tle (show 12 * 30 * (6 + 6 + 1) + 1 ≤ LIM by omega)
 have HTT := Lib.hid (And.intro hT (r13.tle (by omega)))
 clear hT r13
 go_wp2_with fail
 refine (all_true _ _ _ w13 HTT.out.1 HTT.out.2).mono ?_
 rintro e w14 ⟨rfl, e14⟩
 have E14 := E13.trans e14
 have SP := Lib.hid (R10.out.sp.ext (((e11.trans e12).trans e13).trans e14))
 clear HTT R10
 go_wp2_with fail
 refine (spoil5_calls w9.heap.size _ w14 SP.out).mono ?_
 rintro e w15 ⟨rfl, h15⟩
 have E9H : Ext w9 w15 := ((((e10.trans e11).trans e12).trans e13).trans e14).hurtV h15 (Nat.le_refl _)
 have E15 := E9.trans E9H
 clear SP e10 e11 e12 e13 e14 E10 E11 E12 E13 E14 h15
 go_wp2_with fail
 refine (sameM_true _ _ ms w15 (C6.out.ext ((E68.trans e9).trans E9H)) (HV.out.ext E15)).mono ?_
 rintro e w16 ⟨rfl, e16⟩
 go_wp2_with fail
 refine (sameAll_true _ _ xl w16 (C7.out.ext (((e8.trans e9).trans E9H).trans e16)) (HU.out.ext (E15.trans e16))).mono ?_
 rintro e w17 ⟨rfl, e17⟩
 go_wp2_with fail
 refine (sameAll_true _ _ yl w17 (C8.out.ext (((e9.trans E9H).trans e16).trans e17)) (HZ.out.ext ((E15.trans e16).trans e17))).mono ?_
 rintro e w18 ⟨rfl, e18⟩
 go_wp2
 go_ret
 exact ⟨rfl, ((E15.trans e16).trans e17).trans e18⟩
end Go.Proofs.YtdmjgjcljbogiaaGreat
/-
 The documents' matrices: the greatest place (Most), the columns (Transpose).
-/
namespace Go.Proofs.YtdmjgjcljbogiaaGreat
set_option maxRecDepth 100000
set_option maxHeartbeats 1000000
open Go.RowKit
set_option linter.unusedVariables false
set_option linter.unusedSimpArgs false
def MostL (L : List (Int × Rat)) (m : Int) : Prop := (∀ x ∈ L, x.1 ≤ m) ∧ (m = -1 ∨ ∃ x ∈ L, x.1 = m)
def allV (rows : List (List (Int × Rat))) : List (Int × Rat) := rows.flatMap mkV
theorem allV_snoc (rows : List (List (Int × Rat))) (r : List (Int × Rat)) : allV (rows ++ [r]) = allV rows ++ mkV r := by unfold allV; rw [List.flatMap_append]; simp
theorem most_nil : MostL [] (-1) := ⟨fun x hx => (by cases hx), .inl rfl⟩
theorem most_gt {L : List (Int × Rat)} {m : Int} (h : MostL L m) {x : Int × Rat} (hx : m < x.1) : MostL (L ++ [x]) x.1 := by
 refine ⟨fun y hy => ?_, .inr ⟨x, by simp, rfl⟩⟩
 rcases List.mem_append.1 hy with hy | hy
 ·have := h.1 y hy; omega
 ·rw [List.mem_singleton] at hy; rw [hy]; exact Int.le_refl _
theorem most_le {L : List (Int × Rat)} {m : Int} (h : MostL L m) {x : Int × Rat} (hx : x.1 ≤ m) : MostL (L ++ [x]) m := by
 refine ⟨fun y hy => ?_, h.2.imp_right fun ⟨y, hy, e⟩ => ⟨y, List.mem_append_left _ hy, e⟩⟩
 rcases List.mem_append.1 hy with hy | hy
 ·exact h.1 y hy
 ·rw [List.mem_singleton] at hy; rw [hy]; exact hx
theorem most_lt {rows : List (List (Int × Rat))} {m n : Int} (h : MostL (allV rows) m) (hn : 0 ≤ n) : m < n ↔ ∀ r ∈ rows, ∀ x ∈ mkV r, x.1 < n := by
 constructor
 ·intro hm r hr x hx
  have := h.1 x (List.mem_flatMap.2 ⟨r, hr, hx⟩)
  omega
 ·intro ha
  rcases h.2 with h1 | ⟨x, hx, e⟩
  ·omega
  ·obtain ⟨r, hr, hx⟩ := List.mem_flatMap.1 hx
   have := ha r hr x hx
   omega
theorem most_ok {rows : List (List (Int × Rat))} {m n : Int} (h : MostL (allV rows) m) (h0 : 0 ≤ n) (h1 : n ≤ 65536) : trOk rows n = decide (m < n) := by
 by_cases hm : m < n
 ·rw [decide_eq_true hm]
  exact trOk_good h0 h1 ((most_lt h h0).1 hm)
 ·rw [decide_eq_false hm]
  cases hb : trOk rows n with
  | false => rfl
  | true =>
   unfold trOk at hb
   simp only [Bool.and_eq_true, List.all_eq_true, decide_eq_true_eq] at hb
   exact absurd ((most_lt h h0).2 hb.2) hm
set_option maxHeartbeats 8000000 in
theorem most_calls (k : Nat) (v : Value) (rows : List (List (Int × Rat))) (w : World) (hv : ML k w v rows) (hN : ∀ r ∈ rows, r.length ≤ 1000) (hk : k ≤ 1000000) :
  Calls Tryz.prog 32 #[v] w fun e w' => ∃ m, e = .returned (.int .i64 m) ∧ MostL (allV rows) m ∧ Ext w w' := by
 obtain ⟨ad, n, cap, hnl, rfl, hn1, hat⟩ := hv.at
 have HN := Lib.hid hnl
 have HAT := Lib.hid hat
 have HL := Lib.hid hN
 clear hnl hat hv hN
 go_enter Tryz.func32, Tryz.ntmps32
 go_wp2_with fail
 go_loopw [3, 4] (fun s3 s4 wr => ∃ (i : Nat) (m : Int), i ≤ n ∧ s4 = .int .i64 (i : Int) ∧ s3 = .int .i64 m ∧ Hid (MostL (allV (rows.take i)) m) ∧ Ext w wr) (fun _ s4 _ => ((n : Int) - intOf s4).toNat)
 case atStart => exact ⟨0, -1, Nat.zero_le _, rfl, rfl, Lib.hid most_nil, Ext.refl _⟩
 case round =>
  obtain ⟨i, m, hi, rfl, rfl, HS, hE0⟩ := hrel
  rcases Nat.eq_or_lt_of_le hi with hin | hin
  ·subst hin
   have hlt : ¬ ((i : Int) < (i : Int)) := by omega
   have hT := HS.out
   rw [show rows.take i = rows by rw [HN.out, List.take_length]] at hT
   have HT := Lib.hid hT
   clear hT
   go_wp2
   go_ret
   exact ⟨_, rfl, HT.out, hE0⟩
  ·have hlt : (i : Int) < (n : Int) := by omega
   obtain ⟨r, hr⟩ : ∃ x, rows[i]? = some x := ⟨_, List.getElem?_eq_getElem (by rw [← HN.out]; exact hin)⟩
   obtain ⟨g, off, rfl, a1, n1, c1, hcell, hTL⟩ := HAT.out i _ hr
   have hc0 := hcell wr hE0
   have HTK := Lib.hid (take_next hr)
   have hrN := HL.out r (List.mem_of_getElem? hr)
   have HTL := Lib.hid hTL
   clear hcell hr hTL
   go_wp2_with fail
   refine (make5_calls k _ r wr (HTL.out.ext hE0) hk hrN).mono ?_
   rintro e w6 ⟨v6, rfl, hto, e6⟩
   obtain ⟨ad6, cap6, rfl, hl6, hat6⟩ := hto.at
   have HAT6 := Lib.hid hat6
   obtain ⟨L, hL⟩ : ∃ L, L = (mkV r).length := ⟨_, rfl⟩
   rw [← hL] at hl6 ⊢
   have HLL := Lib.hid hL
   have hE6 := hE0.trans e6
   have HS6 := Lib.hid (show MostL (allV (rows.take i) ++ (mkV r).take 0) m by rw [List.take_zero, List.append_nil]; exact HS.out)
   clear hc0 hto hat6 hL HS
   go_wp2_with fail
   obtain ⟨wo, hwo⟩ : ∃ wo : World, wo = wr := ⟨_, rfl⟩
   rw [← hwo] at hE0 e6
   clear hwo
   go_loopw [3, 6] (fun s3 s6 wr => ∃ (j : Nat) (m : Int), j ≤ L ∧ s6 = .int .i64 (j : Int) ∧ s3 = .int .i64 m ∧ Hid (MostL (allV (rows.take i) ++ (mkV r).take j) m) ∧ Ext w6 wr) (fun _ s6 _ => ((L : Int) - intOf s6).toNat)
   case atStart => exact ⟨0, m, Nat.zero_le _, rfl, rfl, HS6, Ext.refl _⟩
   case round =>
    obtain ⟨j, m, hj, rfl, rfl, HS, hE6j⟩ := hrel
    clear HS6
    rcases Nat.eq_or_lt_of_le hj with hjn | hjn
    ·subst hjn
     have hlt2 : ¬ ((j : Int) < (j : Int)) := by omega
     have hN1 : Hid (MostL (allV (rows.take (i + 1))) m) := Lib.hid (by
      have := HS.out
      rw [show (mkV r).take j = mkV r by rw [HLL.out, List.take_length]] at this
      rw [HTK.out, allV_snoc]
      exact this)
     go_wp2
     go_roundw
     case rel => exact ⟨i + 1, m, by omega, congrArg (Value.int .i64) (by omega), rfl, hN1, hE6.trans hE6j⟩
     case measure => simp [intOf]; omega
    ·have hlt2 : (j : Int) < (L : Int) := by omega
     obtain ⟨x, hx⟩ : ∃ x, (mkV r)[j]? = some x := ⟨_, List.getElem?_eq_getElem (by rw [← HLL.out]; exact hjn)⟩
     obtain ⟨g6, rfl, b', a1', n1', c1', a2', n2', c2', hcell, -, -⟩ := HAT6.out j x hx
     obtain ⟨xc, xq⟩ := x
     simp only at hcell
     obtain ⟨hc0, -⟩ := hcell wr hE6j
     have HX := Lib.hid (take_next hx)
     clear hx hcell
     by_cases hm : m < xc
     ·have hN1 : Hid (MostL (allV (rows.take i) ++ (mkV r).take (j + 1)) xc) := Lib.hid (by rw [HX.out, ← List.append_assoc]; exact most_gt HS.out (x := (xc, xq)) hm)
      go_wp2
      go_roundw
      case rel => exact ⟨j + 1, xc, by omega, congrArg (Value.int .i64) (by omega), rfl, hN1, hE6j⟩
      case measure => simp [intOf]; omega
     ·have hN1 : Hid (MostL (allV (rows.take i) ++ (mkV r).take (j + 1)) m) := Lib.hid (by rw [HX.out, ← List.append_assoc]; exact most_le HS.out (x := (xc, xq)) (by show xc ≤ m; omega))
      go_wp2
      go_roundw
      case rel => exact ⟨j + 1, m, by omega, congrArg (Value.int .i64) (by omega), rfl, hN1, hE6j⟩
      case measure => simp [intOf]; omega
theorem TO.snoc {B K : Nat} {w w' : World} {hv v' : Value} {ps : Ps} {m : List (Int × Rat)} {c : Int} {q : Rat} {b : Bool} {a1 a2 : Option Addr} {n1 c1 n2 c2 : Nat} (hps : lP ps = m) (hls : LS 66 4 B w hv ((tsP ps).map tmv)) (hfr : ∀ p ∈ ps, FrQ B w (ratv p.1) p.2 ∧ szQ p.2 ≤ K) (hq : FrQ B w (.agg #[.bool b, .slice a1 n1 c1, .slice a2 n2 c2]) q) (hK : szQ q ≤ K) (hg : w.grownBy w' hv.ownBlock)
  (h' : LS 66 4 B w' v' ((tsP ps).map tmv ++ [.agg #[.int .i64 c, .bool b, .slice a1 n1 c1, .slice a2 n2 c2]])) : TO B K w' v' (m ++ [(c, q)]) := by
 have hk : Keep 107 w w' := by
  rcases hls.2.2 with ⟨h1, h2⟩ | ⟨g, cap, cur, h1, h2, h3, h4⟩
  ·rw [h1] at hg
   exact Ext.keep hg
  ·rw [h1] at hg
   refine keep_of (bs := [g]) (Chg.chgS (g := g) hg (by simp)) fun g' hg' => ?_
   rw [List.mem_singleton] at hg'
   subst hg'
   exact ⟨_, cur, h3, by decide⟩
 have e : m ++ [(c, q)] = lP (ps ++ [((⟨c, b, a1, n1, c1, a2, n2, c2⟩ : TmC), q)]) := by rw [lP_snoc, hps]
 rw [e]
 refine TO.of_ps (by rw [tsP_snoc, List.map_append]; exact h') fun p hp => ?_
 rcases List.mem_append.1 hp with hp | hp
 ·exact ⟨(hfr p hp).1.keep hk, (hfr p hp).2⟩
 ·rw [List.mem_singleton] at hp
  subst hp
  exact ⟨hq.keep hk, hK⟩
theorem colP_zero {rows : List (List (Int × Rat))} {i : Nat} {r : List (Int × Rat)} (hr : rows[i]? = some r) (c : Int) (h : getV r c = 0) : colP rows (i + 1) c = colP rows i c := by
 rw [colP_succ hr, pick_nf (mkV_nf r), mkV_get, if_pos h, List.append_nil]
theorem colP_more {rows : List (List (Int × Rat))} {i : Nat} {r : List (Int × Rat)} (hr : rows[i]? = some r) (c : Int) (h : getV r c ≠ 0) : colP rows (i + 1) c = colP rows i c ++ [((i : Int), getV r c)] := by
 rw [colP_succ hr, pick_nf (mkV_nf r), mkV_get, if_neg h]
theorem transV_succ (rows : List (List (Int × Rat))) (n : Nat) : transV rows (n + 1) = transV rows n ++ [colP rows rows.length (n : Int)] := by unfold transV; rw [List.range_succ, List.map_append]; rfl
set_option maxHeartbeats 8000000 in
theorem transpose6_calls (k N : Nat) (v : Value) (nI : Int) (rows : List (List (Int × Rat))) (w : World) (hv : ML k w v rows) (hN : ∀ r ∈ rows, r.length ≤ N) (hN1 : N ≤ 1000) (hn : rows.length ≤ 1000000) (hk : k ≤ 1000000) :
  Calls Tryz.prog 12 #[v, .int .i64 nI] w fun e w' => ∃ v', e = .returned (.tuple #[v', .int .i64 (scE (trOk rows nI))]) ∧ (trOk rows nI = true → MO w.heap.size (N * (k + 1) + 1) w' v' (transV rows nI.toNat)) ∧ (trOk rows nI = false → MLE w' v' []) ∧ Ext w w' := by
 obtain ⟨K, hK⟩ : ∃ K, K = N * (k + 1) + 1 := ⟨_, rfl⟩
 have hKb : K ≤ 1000001001 := by
  have : N * (k + 1) ≤ 1000 * 1000001 := Nat.mul_le_mul hN1 (by omega)
  omega
 have HV := Lib.hid hv
 obtain ⟨ad, n, cap, hnl, rfl, hn1, hat⟩ := hv.at
 rw [← hnl] at hn
 rw [← hK]
 have HK := Lib.hid hK
 have HN := Lib.hid hnl
 have HAT := Lib.hid hat
 have HL := Lib.hid hN
 have eb := emptyT
 have em := emptyM
 clear hnl hat hv hN hK
 go_enter Tryz.func12, Tryz.ntmps12
 obtain ⟨w1, hw1⟩ : ∃ w1, w1 = w.alloc (.cells #[] 40) := ⟨_, rfl⟩
 have e1 : Ext w w1 := hw1 ▸ (Ext.refl _).alloc _
 have M1 : Hid (MO w.heap.size K w1 (.slice (some ⟨w.heap.size, 0, none⟩) 0 0) (transV rows 0)) := Lib.hid (hw1 ▸ OV.empty _ _ _ _ (Nat.le_refl _))
 by_cases h1 : nI < 0
 ·have hS : Hid (trOk rows nI = false) := Lib.hid (trOk_neg h1)
  go_wp2
  go_ret2
  rw [← hw1]
  exact ⟨_, by rw [hS.out] <;> rfl, (fun h => by rw [hS.out] at h; cases h), (fun _ => MLE.none _ _ _ (by omega)), e1⟩
 by_cases h2 : 65536 < nI
 ·have hS : Hid (trOk rows nI = false) := Lib.hid (trOk_big h2)
  go_wp2
  go_ret2
  rw [← hw1]
  exact ⟨_, by rw [hS.out] <;> rfl, (fun h => by rw [hS.out] at h; cases h), (fun _ => MLE.none _ _ _ (by omega)), e1⟩
 go_wp2_with fail
 rw [← hw1]
 refine (most_calls k _ rows w1 (HV.out.ext e1) (fun r hr => Nat.le_trans (HL.out r hr) hN1) hk).mono ?_
 rintro e w2 ⟨m, rfl, hm, e2⟩
 have hok := most_ok hm (by omega) (by omega : nI ≤ 65536)
 have HOK := Lib.hid hok
 have E2 := e1.trans e2
 have M2 := Lib.hid (M1.out.ext e2)
 clear hok hm hw1 M1 HV e1 e2
 by_cases h3 : nI ≤ m
 ·have hS : Hid (trOk rows nI = false) := Lib.hid (by rw [HOK.out]; exact decide_eq_false (by omega))
  go_wp2
  go_ret2
  exact ⟨_, by rw [hS.out] <;> rfl, (fun h => by rw [hS.out] at h; cases h), (fun _ => MLE.none _ _ _ (by omega)), E2⟩
 have hS : Hid (trOk rows nI = true) := Lib.hid (by rw [HOK.out]; exact decide_eq_true (by omega))
 obtain ⟨M, rfl⟩ : ∃ M : Nat, nI = (M : Int) := ⟨nI.toNat, by omega⟩
 clear HOK
 go_wp2_with fail
 go_loopw [6, 7] (fun s6 s7 wr => ∃ (c : Nat) (ado : Option Addr) (capo : Nat), c ≤ M ∧ s7 = .int .i64 (c : Int) ∧ s6 = .slice ado c capo ∧ Hid (MO w.heap.size K wr (.slice ado c capo) (transV rows c)) ∧ Ext w wr) (fun _ s7 _ => ((M : Int) - intOf s7).toNat)
 case atStart => exact ⟨0, _, _, Nat.zero_le _, rfl, rfl, M2, E2⟩
 case round =>
  obtain ⟨c, ado, capo, hc, rfl, rfl, HO, hE0⟩ := hrel
  clear M2 E2
  have hwr := hE0.size
  rcases Nat.eq_or_lt_of_le hc with hcn | hcn
  ·subst hcn
   have hlt : ¬ ((c : Int) < (c : Int)) := by omega
   go_wp2
   go_ret2
   exact ⟨_, by rw [hS.out] <;> rfl, (fun _ => HO.out), (fun h => by rw [hS.out] at h; cases h), hE0⟩
  ·have hlt : (c : Int) < (M : Int) := by omega
   have hTE : TO wr.heap.size K (wr.alloc (.cells #[] 66)) (.slice (some ⟨wr.heap.size, 0, none⟩) 0 0) (colP rows 0 (c : Int)) := TO.empty _ _ _ (Nat.le_refl _)
   have HTE := Lib.hid (And.intro hTE ((Ext.refl wr).alloc (.cells #[] 66)))
   clear hTE
   go_wp2_with fail
   obtain ⟨wo, hwo⟩ : ∃ wo : World, wo = wr := ⟨_, rfl⟩
   rw [← hwo] at hE0 hwr HTE HO ⊢
   clear hwo
   go_loopw [8, 9] (fun s8 s9 wr => ∃ (i p : Nat) (adv : Option Addr) (capv : Nat), i ≤ n ∧ s9 = .int .i64 (i : Int) ∧ s8 = .slice adv p capv ∧ p ≤ i ∧ Hid (p = (colP rows i (c : Int)).length ∧ TO wo.heap.size K wr (.slice adv p capv) (colP rows i (c : Int))) ∧ Ext wo wr) (fun _ s9 _ => ((n : Int) - intOf s9).toNat)
   case atStart => exact ⟨0, 0, _, _, Nat.zero_le _, rfl, rfl, Nat.le_refl _, Lib.hid ⟨rfl, HTE.out.1⟩, HTE.out.2⟩
   case round =>
    obtain ⟨i, p, adv, capv, hi, rfl, rfl, hpi, HC, hEo⟩ := hrel
    clear HTE
    have hwo := hEo.size
    have hEw := hE0.trans hEo
    rcases Nat.eq_or_lt_of_le hi with hin | hin
    ·subst hin
     have hlt2 : ¬ ((i : Int) < (i : Int)) := by omega
     obtain ⟨vs, hls, hvl, hvs⟩ := HO.out.ext hEo
     have hvi : vs.length = c := by rw [hvl, transV_len]
     subst hvi
     have HP := Lib.hid (show TO w.heap.size K wr (.slice adv p capv) (colP rows rows.length ((vs.length : Nat) : Int)) by rw [← HN.out]; exact HC.out.2.mono hwr)
     have HLS := Lib.hid hls
     have HVS := Lib.hid (And.intro hvl hvs)
     have HGE := Lib.hid (ownsRow_ge hls)
     have hs6 := hEw.size
     clear hls hvl hvs HO HC
     go_wp2_with (first
      | (at_builtin; go_loud (refine wpList_append_V rfl _ _ 22 rfl 40 24 w.heap.size Tryz.underlying22 (by kernel_rfl) (by kernel_rfl) _ vs.length vs rfl (ownsRow_extI HLS.out ((Ext.refl _).alloc _)) ⟨wr.heap.size, 0, none⟩ (.slice adv p capv) rfl (cell_one_new _ _ _) rfl (by omega) (by omega) (by rw [alloc_size]; omega) ?_); intro g' cap2' w7 hls7 hg7 hwh7 hlt7)
      | fail)
     go_roundw
     case rel =>
      have hA := (Ext.refl wr).alloc (.cells #[.slice adv p capv] 40)
      refine ⟨vs.length + 1, some ⟨g', 0, none⟩, cap2', by omega, by simp, rfl, Lib.hid ?_, (hEw.trans hA).stepG hg7 HGE.out⟩
      have hLA := ownsRow_extI HLS.out hA
      rw [transV_succ]
      exact OV.app (w := wr.alloc (.cells #[.slice adv p capv] 40)) HVS.out.1 (fun i u y h1 h2 => (HVS.out.2 i u y h1 h2).ext hA) rfl hls7 (fun u y h => TO.grow h hLA hg7 (by decide) (by decide)) (TO.grow (HP.out.ext hA) hLA hg7 (by decide) (by decide))
     case measure => simp [intOf]; omega
    ·have hlt2 : (i : Int) < (n : Int) := by omega
     obtain ⟨r, hr⟩ : ∃ x, rows[i]? = some x := ⟨_, List.getElem?_eq_getElem (by rw [← HN.out]; exact hin)⟩
     obtain ⟨g, off, rfl, a1, n1, c1, hcell, hTL⟩ := HAT.out i _ hr
     have hc0 := hcell wr hEw
     have hrN := HL.out r (List.mem_of_getElem? hr)
     have HR := Lib.hid (And.intro hTL hr)
     obtain ⟨q, hq⟩ : ∃ q, q = getV r (c : Int) := ⟨_, rfl⟩
     have HQ := Lib.hid hq
     have hzq : szQ q ≤ K := by
      have h1 := sz_get hTL.szs (c : Int)
      have h2 : r.length * (k + 1) ≤ N * (k + 1) := Nat.mul_le_mul_right _ hrN
      have := HK.out
      rw [← hq] at h1
      omega
     clear hcell hr hTL hq
     go_wp2_with fail
     refine (get5_calls k _ (c : Int) r wr (HR.out.1.ext hEw) hk (by omega)).mono ?_
     rw [← HQ.out]
     rintro e w4 ⟨v4, rfl, q4, z4, e4⟩
     obtain ⟨b4, a4, l4, k4, a4', l4', k4', rfl, q4⟩ := q4.opn
     obtain ⟨w5, hw5, e5, b5, s5⟩ := alloc1 w4 #[.bool b4, .slice a4 l4 k4, .slice a4' l4' k4'] 50
     have Q5 := Lib.hid (q4.ext e5)
     have hd0 := b5.cell 0
     have hd1 := b5.cell 1
     have hd2 := b5.cell 2
     rw [hw5] at hd0 hd1 hd2
     have E45 := e4.trans e5
     have Z4 : szD q ≤ 68719476736 := by have := szD_of hzq; omega
     clear q4 z4 hc0
     go_wp2_with fail
     rw [← hw5]
     refine (rqsign3_calls _ q w5 Q5.out.cq).mono ?_
     rintro e w6 ⟨rfl, e6⟩
     obtain ⟨s, hs⟩ : ∃ s, s = q.num.sign := ⟨_, rfl⟩
     rw [← hs]
     have HS := Lib.hid hs
     have E56 := E45.trans e6
     have b6 := b5.ext e6
     have Q6 := Lib.hid (Q5.out.ext e6)
     clear hs hw5 hd0 hd1 hd2 Q5 b5 s5 e4 e5 e6 E45
     by_cases h0 : s = 0
     ·have hq0 : getV r (c : Int) = 0 := by rw [← HQ.out]; exact num_sign_eq.1 (by rw [← HS.out]; exact h0)
      have hm : Hid (colP rows (i + 1) (c : Int) = colP rows i (c : Int)) := Lib.hid (colP_zero HR.out.2 _ hq0)
      subst h0
      clear hq0
      go_wp2
      go_roundw
      case rel => exact ⟨i + 1, p, _, _, by omega, by simp, rfl, by omega, Lib.hid ⟨by rw [hm.out]; exact HC.out.1, by rw [hm.out]; exact HC.out.2.ext E56⟩, hEo.trans E56⟩
      case measure => simp [intOf]; omega
     ·have hq0 : getV r (c : Int) ≠ 0 := by rw [← HQ.out]; exact fun h => h0 (by rw [HS.out]; exact num_sign_eq.2 h)
      have hm : Hid (colP rows (i + 1) (c : Int) = colP rows i (c : Int) ++ [((i : Int), q)]) := Lib.hid (by rw [colP_more HR.out.2 _ hq0, HQ.out])
      have hd0 := b6.cell 0
      have hd1 := b6.cell 1
      have hd2 := b6.cell 2
      have hwr6 := E56.size
      clear hq0
      go_wp2_with fail
      refine (rqto3_calls _ q w6 Q6.out.cq Z4).mono ?_
      rintro e w7 ⟨v7, rfl, q7, e7⟩
      obtain ⟨b7, a7, l7, k7, a7', l7', k7', rfl, q7⟩ := q7.opn
      have E57 := E56.trans e7
      obtain ⟨pso, hpso, hlso, hfro⟩ := (HC.out.2.ext E57).ps
      have hol : ((tsP pso).map tmv).length = p := by
       have := congrArg List.length hpso
       unfold lP at this
       unfold tsP
       rw [List.length_map] at this
       rw [List.length_map, List.length_map, this, HC.out.1]
      have HOL := Lib.hid hol
      have HO7 := Lib.hid (And.intro hpso (And.intro hlso hfro))
      have hs7 := E57.size
      have Q7 := Lib.hid (q7.mono (show wo.heap.size ≤ w6.heap.size by omega))
      obtain ⟨vs, hvs⟩ : ∃ vs, vs = (tsP pso).map tmv := ⟨_, rfl⟩
      rw [← hvs] at HOL HO7
      have HVV := Lib.hid hvs
      subst HOL
      clear hd0 hd1 hd2 hpso hlso hfro q7 hvs
      go_wp2_with (first
       | (at_builtin; go_loud (refine wpList_append_LS rfl _ _ 40 rfl 66 4 64 wo.heap.size Tryz.underlying40 (by kernel_rfl) (by kernel_rfl) (by omega) _ vs rfl (HO7.out.2.1.ext ((Ext.refl _).alloc _)) ⟨w7.heap.size, 0, none⟩ #[.int .i64 (i : Int), .bool b7, .slice a7 l7 k7, .slice a7' l7' k7'] rfl rfl (news_new _ _ _) (by kernel_rfl) (by omega) (by omega) (by rw [alloc_size]; omega) ?_); intro g' cap2' w8 hls8 hg8 hwh8 hlt8)
       | fail)
      go_roundw
      case rel =>
       have hA := (Ext.refl w7).alloc (.cells #[.int .i64 (i : Int), .bool b7, .slice a7 l7 k7, .slice a7' l7' k7'] 66)
       refine ⟨i + 1, vs.length + 1, some ⟨g', 0, none⟩, cap2', by omega, by simp, rfl, by omega, Lib.hid ⟨?_, ?_⟩, ((hEo.trans E57).trans hA).stepG hg8 HO7.out.2.1.ge⟩
       ·rw [hm.out, List.length_append, ← HC.out.1]
        rfl
       ·rw [hm.out]
        refine TO.snoc (ps := pso) (w := w7.alloc (.cells #[.int .i64 (i : Int), .bool b7, .slice a7 l7 k7, .slice a7' l7' k7'] 66)) HO7.out.1 ?_ (fun p hp => ⟨(HO7.out.2.2 p hp).1.ext hA, (HO7.out.2.2 p hp).2⟩) (Q7.out.ext hA) hzq hg8 ?_
        ·rw [← HVV.out]
         exact HO7.out.2.1.ext hA
        ·rw [← HVV.out]
         exact hls8
      case measure => simp [intOf]; omega
end Go.Proofs.YtdmjgjcljbogiaaGreat
/-
 Matrices, lists of terms written over: just which blocks may be harmed.
-/
namespace Go.Proofs.YtdmjgjcljbogiaaGreat
set_option maxRecDepth 100000
set_option maxHeartbeats 1000000
open Go.RowKit
set_option linter.unusedVariables false
set_option linter.unusedSimpArgs false
def HurtW (Q : Nat → Prop) (w w' : World) : Prop := w'.os = w.os ∧ w'.tape = w.tape ∧ w'.output = w.output ∧ w.heap.size ≤ w'.heap.size ∧
 ∀ k, k < w.heap.size → w'.heap[k]? = w.heap[k]? ∨ (Q k ∧ ∃ cur cur' t, (t = 107 ∨ (t = 66 ∧ ∀ x, x % 4 ≠ 0 → cur'[x]? = cur[x]?)) ∧ w.heap[k]? = some (.cells cur t (0, 0)) ∧ w'.heap[k]? = some (.cells cur' t (0, 0)) ∧ cur'.size = cur.size)
theorem HurtP.w {Q : Nat → Prop} {w w' : World} (h : HurtP Q w w') : HurtW Q w w' := by
 obtain ⟨h1, h2, h3, h4, h5⟩ := h
 refine ⟨h1, h2, h3, h4, fun k hk => ?_⟩
 rcases h5 k hk with e | ⟨hb, cur, cur', c1, c2, c3⟩
 ·exact .inl e
 ·exact .inr ⟨hb, cur, cur', _, .inl rfl, c1, c2, c3⟩
theorem HurtW.refl (Q : Nat → Prop) (w : World) : HurtW Q w w := ⟨rfl, rfl, rfl, Nat.le_refl _, fun k hk => .inl rfl⟩
theorem Ext.hurtsW {w w' : World} (Q : Nat → Prop) (h : Ext w w') : HurtW Q w w' := ⟨World.grownBy.os h, World.grownBy.tape h, World.grownBy.output h, h.size, fun k hk => .inl (h.heap hk)⟩
theorem HurtW.trans {Q : Nat → Prop} {a b c : World} (h : HurtW Q a b) (k : HurtW Q b c) : HurtW Q a c := by
 obtain ⟨h1, h2, h3, h4, h5⟩ := h
 obtain ⟨k1, k2, k3, k4, k5⟩ := k
 refine ⟨k1.trans h1, k2.trans h2, k3.trans h3, Nat.le_trans h4 k4, fun g hg => ?_⟩
 rcases h5 g hg with e1 | ⟨hb, cur, cur', t, ht, c1, c2, c3⟩ <;> rcases k5 g (by omega) with e2 | ⟨hb2, dur, dur', u, hu, d1, d2, d3⟩
 ·exact .inl (e2.trans e1)
 ·exact .inr ⟨hb2, dur, dur', u, hu, e1 ▸ d1, d2, d3⟩
 ·exact .inr ⟨hb, cur, cur', t, ht, c1, e2.trans c2, c3⟩
 ·rw [c2] at d1
  cases d1
  refine .inr ⟨hb, cur, dur', t, ?_, c1, d2, by omega⟩
  rcases ht with ht | ⟨ht, hx⟩
  ·exact .inl ht
  ·rcases hu with hu | ⟨hu, hy⟩
   ·exact .inl hu
   ·exact .inr ⟨ht, fun x hn => (hy x hn).trans (hx x hn)⟩
theorem HurtW.size {Q : Nat → Prop} {w w' : World} (h : HurtW Q w w') : w.heap.size ≤ w'.heap.size := h.2.2.2.1
theorem Ext.hurtW {Q : Nat → Prop} {a w w' : World} (h : Ext a w) (k : HurtW Q w w') (hB : ∀ k, Q k → a.heap.size ≤ k) : Ext a w' := by
 obtain ⟨k1, k2, k3, k4, k5⟩ := k
 refine ⟨k1.trans (World.grownBy.os h), k2.trans (World.grownBy.tape h), k3.trans (World.grownBy.output h), Nat.le_trans h.size k4, fun g hg _ => ?_⟩
 have := h.size
 rcases k5 g (by omega) with e1 | ⟨hb, -⟩
 ·exact e1.trans (h.heap hg)
 ·have := hB g hb; omega
theorem Bx.hurtW {Q : Nat → Prop} {t : TypeId} {w w' : World} {g : Nat} {cs : Array Value} (h : Bx t w g cs) (he : HurtW Q w w') (ht : t ≠ 107) (ht2 : t ≠ 66) : Bx t w' g cs := by
 rcases he.2.2.2.2 g (blk_lt h) with e1 | ⟨-, cur, cur', u, hu, c1, -⟩
 ·exact e1.trans h
 ·unfold Bx at h
  rw [h] at c1
  cases c1
  exact absurd (hu.imp_right And.left) (not_or.2 ⟨ht, ht2⟩)
theorem Bx.hurtTW {Q : Nat → Prop} {w w' : World} {g : Nat} {cs : Array Value} (h : Bx 66 w g cs) (he : HurtW Q w w') : ∃ cs', Bx 66 w' g cs' ∧ cs'.size = cs.size ∧ ∀ x, x % 4 ≠ 0 → cs'[x]? = cs[x]? := by
 rcases he.2.2.2.2 g (blk_lt h) with e1 | ⟨-, cur, cur', u, hu, c1, c2, c3⟩
 ·exact ⟨cs, e1.trans h, rfl, fun x _ => rfl⟩
 ·unfold Bx at h
  rw [h] at c1
  cases c1
  rcases hu with hu | ⟨-, hu⟩
  ·exact absurd hu (by decide)
  ·exact ⟨cur', c2, c3, hu⟩
theorem ShpP.hurtW {Q Q1 : Nat → Prop} {w w' : World} {s : Value} (h : ShpP Q w s) (he : HurtW Q1 w w') : ShpP Q w' s := by
 obtain ⟨ad, l, cap, h1, h2, h3⟩ := h
 refine ⟨ad, l, cap, h1, h2, ?_⟩
 rcases h3 with h3 | ⟨g, cur, h3, h4, h5, h6⟩
 ·exact .inl h3
 ·rcases he.2.2.2.2 g (blk_lt h5) with e1 | ⟨-, cu, cu', u, hu, c1, c2, c3⟩
  ·exact .inr ⟨g, cur, h3, h4, e1.trans h5, h6⟩
  ·rw [h5] at c1
   cases c1
   exact .inr ⟨g, cu', h3, h4, c2, by omega⟩
theorem ShpR.hurtW {Q Q1 : Nat → Prop} {w w' : World} {v : Value} (h : ShpR Q w v) (he : HurtW Q1 w w') : ShpR Q w' v := by
 obtain ⟨b, s, t, h1, h2, h3⟩ := h
 exact ⟨b, s, t, h1, h2.hurtW he, h3.hurtW he⟩
theorem HurtW.setCell {Q : Nat → Prop} {g i : Nat} {w : World} {cur : Array Value} (h : Bx 66 w g cur) (hB : Q g) (hi : i % 4 = 0) (u : Value) : HurtW Q w (w.setCell ⟨g, i, none⟩ u) := by
 have hc := Chg.setCell w g i u
 refine ⟨World.grownBy.os hc, World.grownBy.tape hc, World.grownBy.output hc, hc.size, fun k hk => ?_⟩
 by_cases hkg : k = g
 ·subst hkg
  refine .inr ⟨hB, cur, _, _, .inr ⟨rfl, fun x hx => ?_⟩, h, heap_setCell_same w k i _ _ _ h, by simp⟩
  rw [Array.getElem?_setIfInBounds, if_neg (by omega)]
 ·exact .inl (hc.heap hk hkg)
def SpBW (Q : Nat → Prop) (n : Nat) (w : World) (g : Nat) : Prop := Q g ∧ ∃ cs, Bx 66 w g cs ∧ n * 4 ≤ cs.size ∧ ∀ i, i < n → ∃ b a1 n1 c1 a2 n2 c2, cs[i * 4 + 1]? = some (.bool b) ∧ cs[i * 4 + 2]? = some (.slice a1 n1 c1) ∧ cs[i * 4 + 3]? = some (.slice a2 n2 c2) ∧ ShpR Q w (.agg #[.bool b, .slice a1 n1 c1, .slice a2 n2 c2])
def SpW (Q : Nat → Prop) (w : World) (v : Value) : Prop := ∃ ad n cap, v = .slice ad n cap ∧ n ≤ 9223372036854775807 ∧ (n = 0 ∨ ∃ g, ad = some ⟨g, 0, none⟩ ∧ SpBW Q n w g)
theorem SpBW.hurtW {Q Q1 : Nat → Prop} {n g : Nat} {w w' : World} (h : SpBW Q n w g) (he : HurtW Q1 w w') : SpBW Q n w' g := by
 obtain ⟨h1, cs, h2, h3, h4⟩ := h
 obtain ⟨cs', k1, k2, k3⟩ := h2.hurtTW he
 refine ⟨h1, cs', k1, by omega, fun i hi => ?_⟩
 obtain ⟨b, a1, n1, c1, a2, n2, c2, j1, j2, j3, j4⟩ := h4 i hi
 exact ⟨b, a1, n1, c1, a2, n2, c2, by rw [k3 _ (by omega)]; exact j1, by rw [k3 _ (by omega)]; exact j2, by rw [k3 _ (by omega)]; exact j3, j4.hurtW he⟩
theorem SpW.hurtW {Q Q1 : Nat → Prop} {w w' : World} {v : Value} (h : SpW Q w v) (he : HurtW Q1 w w') : SpW Q w' v := by
 obtain ⟨ad, n, cap, h1, h2, h3⟩ := h
 exact ⟨ad, n, cap, h1, h2, h3.imp_right fun ⟨g, a, b⟩ => ⟨g, a, b.hurtW he⟩⟩
theorem SpW.ext {Q : Nat → Prop} {w w' : World} {v : Value} (h : SpW Q w v) (he : Ext w w') : SpW Q w' v := h.hurtW (he.hurtsW fun _ => True)
theorem TO.spw {B k B1 : Nat} {w : World} {v : Value} {m : List (Int × Rat)} (h : TO B k w v m) (hB : w.heap.size ≤ B1) : SpW (fun k => B ≤ k ∧ k < B1) w v := by
 obtain ⟨ts, h1, h2, h3⟩ := h
 obtain ⟨ad, cap, e1, -, e3, -⟩ := h2.opn
 refine ⟨ad, _, cap, e1, by have := h2.opn; obtain ⟨ad', cap', f1, f2, f3, -⟩ := this; omega, ?_⟩
 rcases Nat.eq_zero_or_pos (ts.map tmv).length with h0 | h0
 ·exact .inl h0
 obtain ⟨g, cap', rest, f1, f2, f3, f4, f5, f6⟩ := h2.hold h0
 rw [e1] at f1
 simp only [Value.slice.injEq] at f1
 refine .inr ⟨g, f1.1, ⟨f2, Nat.lt_of_lt_of_le (blk_lt f6) hB⟩, _, f6, by have := flatS_len h2.1.size; simp only [List.size_toArray, List.length_append]; omega, fun i hi => ?_⟩
 rw [List.length_map] at hi
 obtain ⟨t, ht⟩ : ∃ t, ts[i]? = some t := ⟨_, List.getElem?_eq_getElem hi⟩
 obtain ⟨x, hx⟩ : ∃ x, m[i]? = some x := ⟨_, List.getElem?_eq_getElem (by omega)⟩
 have hHT : HoldT g rest w ts := ⟨strN_tmv _, f6⟩
 have hb : Bx 66 w g (flatS (ts.map tmv) ++ rest).toArray := f6
 have hel : ∀ (j : Nat) (u : Value), (tmv t).cells[j]? = some u → (flatS (ts.map tmv) ++ rest).toArray[i * 4 + j]? = some u := fun j u hj => by
  rw [← hb.cell]
  exact hHT.at ht w (Ext.refl w) j u hj
 exact ⟨t.b, t.a1, t.n1, t.c1, t.a2, t.n2, t.c2, hel 1 _ rfl, hel 2 _ rfl, hel 3 _ rfl, (h3 i t x ht hx).2.1.shpP hB⟩
set_option maxHeartbeats 4000000 in
theorem spoil5w_calls (Q : Nat → Prop) (v : Value) (w : World) (h : SpW Q w v) :
  Calls Tryz.prog 25 #[v] w fun e w' => e = .returned (.tuple #[]) ∧ HurtW Q w w' := by
 obtain ⟨ad, n, cap, rfl, hn, h2⟩ := h
 have H2 := Lib.hid h2
 clear h2
 go_enter Tryz.func25, Tryz.ntmps25
 go_wp2_with fail
 go_loopw [2] (fun s2 wr => ∃ i : Nat, i ≤ n ∧ s2 = .int .i64 (i : Int) ∧ HurtW Q w wr) (fun s2 _ => ((n : Int) - intOf s2).toNat)
 case atStart => exact ⟨0, Nat.zero_le _, rfl, HurtW.refl _ _⟩
 case round =>
  obtain ⟨i, hi, rfl, hH⟩ := hrel
  rcases Nat.eq_or_lt_of_le hi with hin | hin
  ·subst hin
   have hlt : ¬ ((i : Int) < (i : Int)) := by omega
   go_wp2
   go_end0
   exact ⟨rfl, hH⟩
  ·have hlt : (i : Int) < (n : Int) := by omega
   obtain ⟨g, rfl, hb⟩ := H2.out.resolve_left (by omega)
   have hb1 := hb.hurtW hH
   obtain ⟨hBg, cs, hbx, hsz, hel⟩ := hb1
   obtain ⟨b, a1, n1, c1, a2, n2, c2, j1, j2, j3, j4⟩ := hel i hin
   have hc1 : wr.cell? ⟨g, i * 4 + 1, none⟩ = some (.bool b) := by rw [hbx.cell]; exact j1
   have hc2 : wr.cell? ⟨g, i * 4 + 2, none⟩ = some (.slice a1 n1 c1) := by rw [hbx.cell]; exact j2
   have hc3 : wr.cell? ⟨g, i * 4 + 3, none⟩ = some (.slice a2 n2 c2) := by rw [hbx.cell]; exact j3
   have HSh := Lib.hid j4
   have HBX := Lib.hid hbx
   have hlt4 : i * 4 < cs.size := by omega
   clear hel j1 j2 j3 j4 hbx hb
   go_wp2_with fail
   refine (spoilP_calls _ Q wr HSh.out).mono ?_
   rintro e w2 ⟨rfl, h2⟩
   have hb2 := HBX.out.hurtP h2 (by decide)
   have hf0 := hb2.free (i * 4)
   have HV2 := Lib.hid (And.intro (hH.trans h2.w) hb2)
   have hc0 := hb2.cell (i * 4)
   rw [Array.getElem?_eq_getElem hlt4] at hc0
   clear hc1 hc2 hc3 h2 hb2
   go_wp2
   go_roundw
   case rel => exact ⟨i + 1, by omega, by simp, HV2.out.1.trans (HurtW.setCell HV2.out.2 hBg (by omega) _)⟩
   case measure => simp [intOf]; omega
def SpMW (Q : Nat → Prop) (w : World) (v : Value) : Prop := ∃ ad n cap, v = .slice ad n cap ∧ n ≤ 9223372036854775807 ∧ (n = 0 ∨ ∃ g, ad = some ⟨g, 0, none⟩ ∧ ∃ cs, Bx 40 w g cs ∧ n ≤ cs.size ∧ ∀ i, i < n → ∃ a1 n1 c1, cs[i]? = some (.slice a1 n1 c1) ∧ SpW Q w (.slice a1 n1 c1))
theorem SpMW.hurtW {Q Q1 : Nat → Prop} {w w' : World} {v : Value} (h : SpMW Q w v) (he : HurtW Q1 w w') : SpMW Q w' v := by
 obtain ⟨ad, n, cap, h1, h2, h3⟩ := h
 refine ⟨ad, n, cap, h1, h2, h3.imp_right fun ⟨g, a, cs, b, c, d⟩ => ⟨g, a, cs, b.hurtW he (by decide) (by decide), c, fun i hi => ?_⟩⟩
 obtain ⟨a1, n1, c1, k1, k2⟩ := d i hi
 exact ⟨a1, n1, c1, k1, k2.hurtW he⟩
theorem SpMW.ext {Q : Nat → Prop} {w w' : World} {v : Value} (h : SpMW Q w v) (he : Ext w w') : SpMW Q w' v := h.hurtW (he.hurtsW fun _ => True)
theorem MO.spw {B k B1 : Nat} {w : World} {v : Value} {rows : List (List (Int × Rat))} (h : MO B k w v rows) (hB : w.heap.size ≤ B1) : SpMW (fun k => B ≤ k ∧ k < B1) w v := by
 obtain ⟨vs, h0, hl, hR⟩ := h
 rcases h0.2 with ⟨h1, h2⟩ | ⟨g, cap, cur, h1, h2, h3, h4, h5, h6, h7⟩
 ·exact ⟨none, 0, 0, h1, by omega, .inl rfl⟩
 ·refine ⟨_, vs.length, cap, h1, by unfold maxLen at h5; omega, .inr ⟨g, rfl, cur, h3, by omega, fun i hi => ?_⟩⟩
  obtain ⟨r, hr⟩ : ∃ r, rows[i]? = some r := ⟨_, List.getElem?_eq_getElem (by omega)⟩
  have hT := hR i vs[i] r (List.getElem?_eq_getElem hi) hr
  obtain ⟨a1, c1, hv⟩ := hT.val
  have h8 := congrArg (fun l => l[i]?) h7
  simp only [Nat.mul_one] at h8
  rw [List.getElem?_take, if_pos (by omega), Array.getElem?_toList] at h8
  refine ⟨a1, r.length, c1, by rw [h8, List.getElem?_eq_getElem hi, hv], ?_⟩
  rw [← hv]
  exact hT.spw hB
set_option maxHeartbeats 4000000 in
theorem spoilMw_calls (Q : Nat → Prop) (v : Value) (w : World) (h : SpMW Q w v) :
  Calls Tryz.prog 14 #[v] w fun e w' => e = .returned (.tuple #[]) ∧ HurtW Q w w' := by
 obtain ⟨ad, n, cap, rfl, hn, h2⟩ := h
 have H2 := Lib.hid h2
 clear h2
 go_enter Tryz.func14, Tryz.ntmps14
 go_wp2_with fail
 go_loopw [2] (fun s2 wr => ∃ i : Nat, i ≤ n ∧ s2 = .int .i64 (i : Int) ∧ HurtW Q w wr) (fun s2 _ => ((n : Int) - intOf s2).toNat)
 case atStart => exact ⟨0, Nat.zero_le _, rfl, HurtW.refl _ _⟩
 case round =>
  obtain ⟨i, hi, rfl, hH⟩ := hrel
  rcases Nat.eq_or_lt_of_le hi with hin | hin
  ·subst hin
   have hlt : ¬ ((i : Int) < (i : Int)) := by omega
   go_wp2
   go_end0
   exact ⟨rfl, hH⟩
  ·have hlt : (i : Int) < (n : Int) := by omega
   obtain ⟨g, rfl, cs, hb, hsz, hel⟩ := H2.out.resolve_left (by omega)
   obtain ⟨a1, n1, c1, k1, k2⟩ := hel i hin
   have hb1 := hb.hurtW hH (by decide) (by decide)
   have hc1 : wr.cell? ⟨g, i, none⟩ = some (.slice a1 n1 c1) := by rw [hb1.cell]; exact k1
   have HK := Lib.hid (k2.hurtW hH)
   clear hel k1 k2 hb1 hb
   go_wp2_with fail
   refine (spoil5w_calls Q _ wr HK.out).mono ?_
   rintro e w2 ⟨rfl, h2⟩
   clear hc1
   go_wp2
   go_roundw
   case rel => exact ⟨i + 1, by omega, by simp, hH.trans h2⟩
   case measure => simp [intOf]; omega
/-! What lies from block B on stays where those blocks stay. -/
def Above (B : Nat) (w w' : World) : Prop := ∀ g, B ≤ g → g < w.heap.size → w'.heap[g]? = w.heap[g]?
theorem HurtW.above {Q : Nat → Prop} {B : Nat} {w w' : World} (h : HurtW Q w w') (hQ : ∀ k, Q k → k < B) : Above B w w' := fun g hg hl => by
 rcases h.2.2.2.2 g hl with e | ⟨hb, -⟩
 ·exact e
 ·have := hQ g hb
  omega
theorem Bx.above {B g : Nat} {t : TypeId} {w w' : World} {cs : Array Value} (h : Bx t w g cs) (ha : Above B w w') (hg : B ≤ g) : Bx t w' g cs := (ha g hg h.lt).trans h
theorem FrL.above {e : TypeId} {k : IntKind} {B : Nat} {w w' : World} {s : Value} {xs : List Nat} (h : FrL e k B w s xs) (ha : Above B w w') : FrL e k B w' s xs := by
 obtain ⟨ad, cap, h1, h2, h3, h4⟩ := h
 refine ⟨ad, cap, h1, h2, h3, ?_⟩
 rcases h4 with h4 | ⟨g, cur, h4, h5, h6, h7⟩
 ·exact .inl h4
 ·exact .inr ⟨g, cur, h4, h5, Bx.above h6 ha h5, h7⟩
theorem FrQ.above {B : Nat} {w w' : World} {v : Value} {q : Rat} (h : FrQ B w v q) (ha : Above B w w') : FrQ B w' v q := by
 obtain ⟨s, t, h1, h2, h3⟩ := h
 exact ⟨s, t, h1, FrL.above h2 ha, FrL.above h3 ha⟩
theorem ownsRow_above {B e size n : Nat} {w w' : World} {v : Value} {xs : List Value} (h : w.ownsRow B e size v n xs) (ha : Above B w w') : w'.ownsRow B e size v n xs := by
 refine ⟨h.1, ?_⟩
 rcases h.2 with h2 | ⟨g, cap, cur, h1, h2, h3, h4⟩
 ·exact .inl h2
 ·exact .inr ⟨g, cap, cur, h1, h2, Bx.above h3 ha h2, h4⟩
theorem TO.above {B k : Nat} {w w' : World} {v : Value} {m : List (Int × Rat)} (h : TO B k w v m) (ha : Above B w w') : TO B k w' v m := by
 obtain ⟨ts, h1, h2, h3⟩ := h
 exact ⟨ts, h1, ⟨h2.1, ownsRow_above h2.2 ha⟩, fun i t x a b => ⟨(h3 i t x a b).1, (h3 i t x a b).2.1.above ha, (h3 i t x a b).2.2⟩⟩
theorem MO.above {B k : Nat} {w w' : World} {v : Value} {rows : List (List (Int × Rat))} (h : MO B k w v rows) (ha : Above B w w') : MO B k w' v rows := by
 obtain ⟨vs, h1, h2, h3⟩ := h
 exact ⟨vs, ownsRow_above h1 ha, h2, fun i u y a b => (h3 i u y a b).above ha⟩
end Go.Proofs.YtdmjgjcljbogiaaGreat
/-
 Matrices: plain: turned back, the columns are the rows.
-/
namespace Go.Proofs.YtdmjgjcljbogiaaGreat
set_option maxRecDepth 100000
set_option maxHeartbeats 1000000
open Go.RowKit
set_option linter.unusedVariables false
set_option linter.unusedSimpArgs false
/-! Plain: turned back, the columns are the rows. -/
theorem colP_nf (rows : List (List (Int × Rat))) (i : Nat) (c : Int) : Nf (colP rows i c) := (rng_up (fun j => getV (rows.getD j []) c) i).nz
theorem colP_get (rows : List (List (Int × Rat))) (i : Nat) (c d : Int) : getV (colP rows i c) d = if 0 ≤ d ∧ d < (i : Int) then getV (rows.getD d.toNat []) c else 0 := (getV_nz _ _).trans (rng_get (fun j => getV (rows.getD j []) c) d i)
theorem colP_mem {rows : List (List (Int × Rat))} {i : Nat} {c : Int} {x : Int × Rat} (h : x ∈ colP rows i c) : 0 ≤ x.1 ∧ x.1 < (i : Int) := by
 unfold colP nz at h
 exact rng_mem (f := fun j => getV (rows.getD j []) c) (List.mem_filter.1 h).1
theorem transV_mem {rows : List (List (Int × Rat))} {n : Nat} {r : List (Int × Rat)} (h : r ∈ transV rows n) : ∃ c : Nat, c < n ∧ r = colP rows rows.length (c : Int) := by
 unfold transV at h
 obtain ⟨c, hc, rfl⟩ := List.mem_map.1 h
 exact ⟨c, List.mem_range.1 hc, rfl⟩
theorem trOk_trans (rows : List (List (Int × Rat))) (n : Nat) (hr : rows.length ≤ 65536) : trOk (transV rows n) (rows.length : Int) = true := by
 refine trOk_good (by omega) (by omega) fun r hm x hx => ?_
 obtain ⟨c, -, rfl⟩ := transV_mem hm
 rw [mkV_self (colP_nf _ _ _)] at hx
 exact (colP_mem hx).2
theorem transV_rows {rows : List (List (Int × Rat))} {n : Nat} : ∀ r ∈ transV rows n, r.length ≤ rows.length := fun r hr => by
 obtain ⟨c, -, rfl⟩ := transV_mem hr
 exact colP_len _ _ _
theorem unitM_get {n j : Nat} (h : j < n) : (unitM n).getD j [] = [((j : Int), ((1 : Int) : Rat))] := by
 unfold unitM
 rw [List.getD_eq_getElem?_getD, List.getElem?_map, List.getElem?_range h]
 rfl
theorem pr_unit (r : List (Int × Rat)) (n : Nat) (d : Int) : getV (prV r (unitM n)) d = if 0 ≤ d ∧ d < (n : Int) then getV r d else 0 := by
 rw [prV_sum, unitM_len]
 have hone : ((1 : Int) : Rat) = 1 := by decide +kernel
 rw [sumN_congr (g := fun j => if d = (j : Int) ∧ 0 ≤ d then getV r (j : Int) else 0) (fun j hj => by
  rw [unitM_get hj, getV_one]
  by_cases h : (j : Int) = d ∧ 0 ≤ d
  ·rw [if_pos h, if_pos ⟨h.1.symm, h.2⟩, hone, Rat.mul_one]
  ·rw [if_neg h, if_neg (fun h2 => h ⟨h2.1.symm, h2.2⟩), Rat.mul_zero])]
 by_cases h0 : 0 ≤ d
 ·rw [sumN_one _ d.toNat (fun i hi => if_neg (fun h => hi (by omega)))]
  by_cases h1 : d < (n : Int)
  ·rw [if_pos (show d.toNat < n by omega), if_pos (show d = ((d.toNat : Nat) : Int) ∧ 0 ≤ d from ⟨(Int.toNat_of_nonneg h0).symm, h0⟩), if_pos ⟨h0, h1⟩, Int.toNat_of_nonneg h0]
  ·rw [if_neg (show ¬ d.toNat < n by omega), if_neg (fun h => h1 h.2)]
 ·rw [if_neg (fun h => h0 h.1), sumN_congr (g := fun _ => 0) (fun j _ => if_neg (fun h => h0 h.2)), sumN_zero]
theorem back_eq (rows : List (List (Int × Rat))) (n : Nat) : transV (transV rows n) rows.length = rows.map fun r => prV r (unitM n) := by
 apply List.ext_getElem?
 intro i
 rw [List.getElem?_map]
 rcases Nat.lt_or_ge i rows.length with hi | hi
 ·rw [transV_get _ hi, transV_len, List.getElem?_eq_getElem hi]
  simp only [Option.map_some, Option.some.injEq]
  refine nf_ext (colP_nf _ _ _) (prV_nf _ _) fun d => ?_
  rw [colP_get, pr_unit]
  by_cases hd : 0 ≤ d ∧ d < (n : Int)
  ·rw [if_pos hd, if_pos hd]
   have hlt : d.toNat < n := by omega
   rw [List.getD_eq_getElem?_getD, transV_get _ hlt]
   show getV (colP rows rows.length ((d.toNat : Nat) : Int)) (i : Int) = _
   rw [colP_get, if_pos ⟨by omega, by omega⟩, Int.toNat_natCast, Int.toNat_of_nonneg hd.1, List.getD_eq_getElem?_getD, List.getElem?_eq_getElem hi]
   rfl
  ·rw [if_neg hd, if_neg hd]
 ·rw [List.getElem?_eq_none (by rw [transV_len]; exact hi), List.getElem?_eq_none hi]
  rfl
end Go.Proofs.YtdmjgjcljbogiaaGreat
/-
 The law MatTurns.
-/
namespace Go.Proofs.YtdmjgjcljbogiaaGreat
set_option maxRecDepth 100000
set_option maxHeartbeats 1000000
open Go.RowKit
set_option linter.unusedVariables false
set_option linter.unusedSimpArgs false
set_option maxHeartbeats 8000000 in
theorem matTurns_calls (v : Value) (nI : Int) (ms : List (List TE)) (w : World) (hv : MLE w v ms) (hb : ms.length ≤ 281474976710656) :
  Calls Tryz.prog 3 #[v, .int .i64 nI] w fun e w' => e = .returned (.bool true) ∧ Ext w w' := by
 have HV := Lib.hid hv
 obtain ⟨ad, mn, cap, hmn, rfl, hmn1, -⟩ := hv.at
 have HMN := Lib.hid hmn
 have lim : (100000 : Nat) ≤ LIM := by rw [LIM_eq]; omega
 clear hv hmn
 go_enter Tryz.func3, Tryz.ntmps3
 go_wp2_with fail
 refine (speaks6_calls _).mono ?_
 rintro e w2 ⟨rfl, e2⟩
 go_wp2_with fail
 refine (greatM_calls _ ms w2 (HV.out.ext e2) hb).mono ?_
 rintro e w3 ⟨rfl, e3⟩
 obtain ⟨p, hp⟩ : ∃ p, p = greatM ms := ⟨_, rfl⟩
 rw [← hp]
 have HP := Lib.hid hp
 clear hp
 have E5 := e2.trans e3
 cases p with
 | true =>
  go_wp2
  go_ret
  exact ⟨rfl, E5⟩
 | false =>
 by_cases hbig : 100 < nI ∧ nI ≤ 65536
 ·obtain ⟨hb1, hb2⟩ := hbig
  go_wp2
  go_ret
  exact ⟨rfl, E5⟩
 obtain ⟨m1, m2⟩ := greatM_not HP.out.symm
 have HM2 := Lib.hid m2
 obtain ⟨M, hM⟩ : ∃ M, M = ms.map ratT := ⟨_, rfl⟩
 have hMl : M.length = mn := by rw [hM, List.length_map, HMN.out]
 have hm12 : mn ≤ 12 := by rw [HMN.out]; exact m1
 have HML := Lib.hid (show ∀ r ∈ M, r.length ≤ 30 by rw [hM]; exact ratT_len ms fun l hl => (m2 l hl).1)
 have toM : ∀ {w' : World} {v' : Value}, MLE w' v' ms → ML 6 w' v' M := fun h => by rw [hM]; exact h.ml 6 (by omega) (by omega) fun l hl e he => (m2 l hl).2 e he
 have TM := Lib.hid (And.intro @toM trivial)
 have HLM := Lib.hid hMl
 obtain ⟨ok, hok⟩ : ∃ ok, ok = trOk M nI := ⟨_, rfl⟩
 have HOK := Lib.hid hok
 have hrange : (100 : Int) < nI → ¬ nI ≤ 65536 := fun h h2 => hbig ⟨h, h2⟩
 have HRG := Lib.hid hrange
 clear m2 hM toM HP e2 e3 hMl hok hrange hbig m1
 have hm5 : ms.length ≤ 1000 := by rw [← HMN.out]; omega
 have hM12 : M.length ≤ 12 := by rw [HLM.out]; exact hm12
 by_cases hb1 : 100 < nI
 ·have hb2 : ¬ nI ≤ 65536 := HRG.out hb1
  go_wp2_with fail
  refine (copyM_calls _ ms w3 (HV.out.ext E5) hm5 HM2.out).mono ?_
  rintro e w6 ⟨v6, rfl, r6, e6⟩
  have C6 := Lib.hid r6
  have E6 := E5.trans e6
  clear r6
  go_wp2_with fail
  refine (transpose_calls 6 30 _ nI M w6 (TM.out.1 C6.out) HML.out (by omega) (by omega) (by omega)).mono ?_
  rw [← HOK.out]
  rintro e w7 ⟨v7, rfl, r7, n7, e7⟩
  have R7 := Lib.hid (And.intro r7 n7)
  have E7 := E6.trans e7
  clear r7 n7
  go_wp2_with fail
  refine (transpose6_calls 6 30 _ nI M w7 (TM.out.1 (HV.out.ext E7)) HML.out (by omega) (by omega) (by omega)).mono ?_
  rw [← HOK.out]
  rintro e w8 ⟨v8, rfl, r8, n8, e8⟩
  have R8 := Lib.hid (And.intro r8 n8)
  have E8 := E7.trans e8
  clear r8 n8
  cases ok with
  | false =>
   have hz : scE false = 2 := rfl
   have h7 := R7.out.2 rfl
   have h8 := Lib.hid (R8.out.2 rfl)
   subst h7
   rw [hz]
   go_wp2_with fail
   refine (sameM_true _ _ [] w8 (MLE.none _ _ _ (by omega)) h8.out).mono ?_
   rintro e w9 ⟨rfl, e9⟩
   go_wp2
   go_ret
   exact ⟨rfl, E8.trans e9⟩
  | true =>
  have hz : scE true = 0 := rfl
  rw [hz]
  have h7 := R7.out.1 rfl
  have h8 := R8.out.1 rfl
  have H7 := Lib.hid h7
  have H8 := Lib.hid (And.intro ((h7.ext e8).mle (show 30 * (6 + 1) ≤ LIM by omega)) (h8.mle (show 30 * (6 + 1) + 1 ≤ LIM by omega)))
  have hn100 : nI.toNat ≤ 100 ∧ nI = (nI.toNat : Int) := by
   have h := HOK.out.symm
   unfold trOk at h
   simp only [Bool.and_eq_true, decide_eq_true_eq] at h
   have := HRG.out
   omega
  obtain ⟨n, hn⟩ : ∃ n, n = nI.toNat := ⟨_, rfl⟩
  rw [← hn] at hn100 H7 H8
  obtain ⟨hn1, hn2⟩ := hn100
  subst hn2
  clear hn h7 h8 R7 R8 hz
  go_wp2_with fail
  refine (sameM_true _ _ _ w8 H8.out.1 H8.out.2).mono ?_
  rintro e w9 ⟨rfl, e9⟩
  have E9 := E8.trans e9
  have e79 := e8.trans e9
  clear H8 e8 e9 E8
  go_wp2_with fail
  refine (transpose_calls 210 12 _ (mn : Int) (transV M n) w9 ((H7.out.ext e79).ml (by omega)) (fun r hr => Nat.le_trans (transV_rows r hr) hM12) (by omega) (by rw [transV_len]; omega) (by omega)).mono ?_
  have ht : trOk (transV M n) (mn : Int) = true := by rw [← HLM.out]; exact trOk_trans M n (by omega)
  have hbk : transV (transV M n) mn = M.map fun r => prV r (unitM n) := by rw [← HLM.out]; exact back_eq M n
  rw [ht]
  rintro e w10 ⟨v10, rfl, r10, -, e10⟩
  have hz : scE true = 0 := rfl
  rw [hz]
  have h10 := r10 rfl
  rw [Int.toNat_natCast, hbk] at h10
  have H10 := Lib.hid h10
  have E10 := E9.trans e10
  have SP := Lib.hid ((H7.out.spw (Nat.le_refl _)).ext (e79.trans e10))
  have h79 := e79.size
  clear r10 h10 hz ht hbk
  go_wp2_with fail
  refine (spoilMw_calls (fun k => w6.heap.size ≤ k ∧ k < w7.heap.size) _ w10 SP.out).mono ?_
  rintro e w11 ⟨rfl, h11⟩
  have E6H : Ext w6 w11 := ((e7.trans e79).trans e10).hurtW h11 fun k hk => hk.1
  have H11 := Lib.hid (H10.out.above (h11.above fun k hk => by have := hk.2; omega))
  have E11 := E6.trans E6H
  clear SP H10 H7 h11 E9 E10 e79 e10 e7 E7
  go_wp2_with fail
  refine (sameM_true _ _ ms w11 (C6.out.ext E6H) (HV.out.ext E11)).mono ?_
  rintro e w12 ⟨rfl, e12⟩
  have E12 := E11.trans e12
  have H12 := Lib.hid (H11.out.ext e12)
  clear H11
  go_wp2_with fail
  refine (unit_calls n w12 (by omega)).mono ?_
  rintro e w13 ⟨v13, rfl, r13, e13⟩
  have E13 := E12.trans e13
  have R13 := Lib.hid r13
  clear r13
  go_wp2_with fail
  refine (product6_calls 6 1 30 1 100 30000 _ _ M (unitM n) w13 (TM.out.1 (HV.out.ext E13)) (R13.out.ml (by omega)) HML.out (unitM_one n) (by omega) (by rw [unitM_len]; exact hn1) (by omega) (by omega) (by omega) (by omega) (by omega) (by omega) (by omega) (by omega)).mono ?_
  rintro e w14 ⟨v14, rfl, r14, e14⟩
  have H14 := Lib.hid (And.intro ((H12.out.ext (e13.trans e14)).mle (by omega)) (r14.mle (by omega)))
  have E14 := E13.trans e14
  clear r14 H12
  go_wp2_with fail
  refine (sameM_true _ _ _ w14 H14.out.1 H14.out.2).mono ?_
  rintro e w15 ⟨rfl, e15⟩
  go_wp2
  go_ret
  exact ⟨rfl, E14.trans e15⟩
 ·go_wp2_with fail
  refine (copyM_calls _ ms w3 (HV.out.ext E5) hm5 HM2.out).mono ?_
  rintro e w6 ⟨v6, rfl, r6, e6⟩
  have C6 := Lib.hid r6
  have E6 := E5.trans e6
  clear r6
  go_wp2_with fail
  refine (transpose_calls 6 30 _ nI M w6 (TM.out.1 C6.out) HML.out (by omega) (by omega) (by omega)).mono ?_
  rw [← HOK.out]
  rintro e w7 ⟨v7, rfl, r7, n7, e7⟩
  have R7 := Lib.hid (And.intro r7 n7)
  have E7 := E6.trans e7
  clear r7 n7
  go_wp2_with fail
  refine (transpose6_calls 6 30 _ nI M w7 (TM.out.1 (HV.out.ext E7)) HML.out (by omega) (by omega) (by omega)).mono ?_
  rw [← HOK.out]
  rintro e w8 ⟨v8, rfl, r8, n8, e8⟩
  have R8 := Lib.hid (And.intro r8 n8)
  have E8 := E7.trans e8
  clear r8 n8
  cases ok with
  | false =>
   have hz : scE false = 2 := rfl
   have h7 := R7.out.2 rfl
   have h8 := Lib.hid (R8.out.2 rfl)
   subst h7
   rw [hz]
   go_wp2_with fail
   refine (sameM_true _ _ [] w8 (MLE.none _ _ _ (by omega)) h8.out).mono ?_
   rintro e w9 ⟨rfl, e9⟩
   go_wp2
   go_ret
   exact ⟨rfl, E8.trans e9⟩
  | true =>
  have hz : scE true = 0 := rfl
  rw [hz]
  have h7 := R7.out.1 rfl
  have h8 := R8.out.1 rfl
  have H7 := Lib.hid h7
  have H8 := Lib.hid (And.intro ((h7.ext e8).mle (show 30 * (6 + 1) ≤ LIM by omega)) (h8.mle (show 30 * (6 + 1) + 1 ≤ LIM by omega)))
  have hn100 : nI.toNat ≤ 100 ∧ nI = (nI.toNat : Int) := by
   have h := HOK.out.symm
   unfold trOk at h
   simp only [Bool.and_eq_true, decide_eq_true_eq] at h
   have := HRG.out
   omega
  obtain ⟨n, hn⟩ : ∃ n, n = nI.toNat := ⟨_, rfl⟩
  rw [← hn] at hn100 H7 H8
  obtain ⟨hn1, hn2⟩ := hn100
  subst hn2
  clear hn h7 h8 R7 R8 hz
  go_wp2_with fail
  refine (sameM_true _ _ _ w8 H8.out.1 H8.out.2).mono ?_
  rintro e w9 ⟨rfl, e9⟩
  have E9 := E8.trans e9
  have e79 := e8.trans e9
  clear H8 e8 e9 E8
  go_wp2_with fail
  refine (transpose_calls 210 12 _ (mn : Int) (transV M n) w9 ((H7.out.ext e79).ml (by omega)) (fun r hr => Nat.le_trans (transV_rows r hr) hM12) (by omega) (by rw [transV_len]; omega) (by omega)).mono ?_
  have ht : trOk (transV M n) (mn : Int) = true := by rw [← HLM.out]; exact trOk_trans M n (by omega)
  have hbk : transV (transV M n) mn = M.map fun r => prV r (unitM n) := by rw [← HLM.out]; exact back_eq M n
  rw [ht]
  rintro e w10 ⟨v10, rfl, r10, -, e10⟩
  have hz : scE true = 0 := rfl
  rw [hz]
  have h10 := r10 rfl
  rw [Int.toNat_natCast, hbk] at h10
  have H10 := Lib.hid h10
  have E10 := E9.trans e10
  have SP := Lib.hid ((H7.out.spw (Nat.le_refl _)).ext (e79.trans e10))
  have h79 := e79.size
  clear r10 h10 hz ht hbk
  go_wp2_with fail
  refine (spoilMw_calls (fun k => w6.heap.size ≤ k ∧ k < w7.heap.size) _ w10 SP.out).mono ?_
  rintro e w11 ⟨rfl, h11⟩
  have E6H : Ext w6 w11 := ((e7.trans e79).trans e10).hurtW h11 fun k hk => hk.1
  have H11 := Lib.hid (H10.out.above (h11.above fun k hk => by have := hk.2; omega))
  have E11 := E6.trans E6H
  clear SP H10 H7 h11 E9 E10 e79 e10 e7 E7
  go_wp2_with fail
  refine (sameM_true _ _ ms w11 (C6.out.ext E6H) (HV.out.ext E11)).mono ?_
  rintro e w12 ⟨rfl, e12⟩
  have E12 := E11.trans e12
  have H12 := Lib.hid (H11.out.ext e12)
  clear H11
  go_wp2_with fail
  refine (unit_calls n w12 (by omega)).mono ?_
  rintro e w13 ⟨v13, rfl, r13, e13⟩
  have E13 := E12.trans e13
  have R13 := Lib.hid r13
  clear r13
  go_wp2_with fail
  refine (product6_calls 6 1 30 1 100 30000 _ _ M (unitM n) w13 (TM.out.1 (HV.out.ext E13)) (R13.out.ml (by omega)) HML.out (unitM_one n) (by omega) (by rw [unitM_len]; exact hn1) (by omega) (by omega) (by omega) (by omega) (by omega) (by omega) (by omega) (by omega)).mono ?_
  rintro e w14 ⟨v14, rfl, r14, e14⟩
  have H14 := Lib.hid (And.intro ((H12.out.ext (e13.trans e14)).mle (by omega)) (r14.mle (by omega)))
  have E14 := E13.trans e14
  clear r14 H12
  go_wp2_with fail
  refine (sameM_true _ _ _ w14 H14.out.1 H14.out.2).mono ?_
  rintro e w15 ⟨rfl, e15⟩
  go_wp2
  go_ret
  exact ⟨rfl, E14.trans e15⟩
end Go.Proofs.YtdmjgjcljbogiaaGreat
