/-
 The documents' matrices: a matrix times a list, a list times a matrix, the product of two.
-/
import Derived.Test.YtdmjgjcljbogiaaMaaT
namespace Go.Proofs.Ytdmjgjcljbogiaa
set_option maxRecDepth 100000
set_option maxHeartbeats 1000000
open Go.RowKit
set_option linter.unusedVariables false
set_option linter.unusedSimpArgs false
end Go.Proofs.Ytdmjgjcljbogiaa
/-
 The law MatTimes.
-/
namespace Go.Proofs.Ytdmjgjcljbogiaa
set_option maxRecDepth 100000
set_option maxHeartbeats 1000000
open Go.RowKit
set_option linter.unusedVariables false
set_option linter.unusedSimpArgs false
theorem ratT_len (ms : List (List TE)) {n : Nat} (h : ∀ l ∈ ms, l.length ≤ n) : ∀ r ∈ ms.map ratT, r.length ≤ n := by
 intro r hr
 obtain ⟨l, hl, rfl⟩ := List.mem_map.1 hr
 unfold ratT
 rw [List.length_map]
 exact h l hl
end Go.Proofs.Ytdmjgjcljbogiaa
/-
 Matrices: the product of two (mat.Product).
-/
namespace Go.Proofs.Ytdmjgjcljbogiaa
set_option maxRecDepth 100000
set_option maxHeartbeats 1000000
open Go.RowKit
set_option linter.unusedVariables false
set_option linter.unusedSimpArgs false
set_option maxHeartbeats 8000000 in
theorem product_calls (ka kb N Nb : Nat) (v u : Value) (a b : List (List (Int × Rat))) (w : World) (ha : ML ka w v a) (hb : ML kb w u b) (hN : ∀ r ∈ a, r.length ≤ N) (hNb : ∀ r ∈ b, r.length ≤ Nb) (hn : a.length ≤ 1000000) (hn30 : N * Nb + Nb ≤ 1073741824) (hN30 : N ≤ 1073741824)
  (hK1 : (N + 1) * (ka + 1) ≤ 34359738000) (hK : (N * Nb + Nb + 1) * (N * Nb * (N * (ka + 1) + kb + 1) + N * (ka + 1) + kb + 2) ≤ 34359738000) :
  Calls Try.prog 56 #[v, u] w fun e w' => ∃ v', e = .returned v' ∧ MO w.heap.size (N * Nb * (N * (ka + 1) + kb + 1) + 1) w' v' (a.map fun r => prV r b) ∧ Ext w w' := by
 obtain ⟨ad, n, cap, hnl, rfl, hn1, hat⟩ := ha.at
 obtain ⟨adb, nb, capb, hnb, rfl, hnb1, hatb⟩ := hb.at
 obtain ⟨KA, hKA⟩ : ∃ KA, KA = N * (ka + 1) := ⟨_, rfl⟩
 rw [← hKA] at hK
 obtain ⟨C, hC⟩ : ∃ C, C = N * Nb * (KA + kb + 1) + 1 := ⟨_, rfl⟩
 have hCL : C + KA ≤ 34359738000 := by
  have h1 : 1 * (N * Nb * (KA + kb + 1) + KA + kb + 2) ≤ (N * Nb + Nb + 1) * (N * Nb * (KA + kb + 1) + KA + kb + 2) := Nat.mul_le_mul_right _ (by omega)
  omega
 rw [← hKA, ← hC]
 rw [← hnl] at hn
 have HKK := Lib.hid hK
 have HK1 := Lib.hid hK1
 have HKA := Lib.hid hKA
 have HC := Lib.hid hC
 have HSB := Lib.hid hb.szs
 have HN := Lib.hid hnl
 have HNB := Lib.hid hnb
 have HAT := Lib.hid hat
 have HATB := Lib.hid hatb
 have HL := Lib.hid hN
 have HLB := Lib.hid hNb
 clear hnl hnb hat hatb ha hb hN hNb hC hK hK1 hKA
 go_enter Try.func56, Try.ntmps56
 go_wp2_with fail
 go_loopw [4, 12] (fun s4 s12 wr => ∃ (i : Nat) (ado : Option Addr) (capo : Nat), i ≤ n ∧ s12 = .int .i64 (i : Int) ∧ s4 = .slice ado i capo ∧ Hid (MO w.heap.size C wr (.slice ado i capo) ((a.take i).map fun r => prV r b)) ∧ Ext w wr) (fun _ s12 _ => ((n : Int) - intOf s12).toNat)
 case atStart => exact ⟨0, none, 0, Nat.zero_le _, rfl, rfl, Lib.hid (MO.nil _ _ _), Ext.refl _⟩
 case round =>
  obtain ⟨i, ado, capo, hi, rfl, rfl, hS, hE0⟩ := hrel
  rcases Nat.eq_or_lt_of_le hi with hin | hin
  ·subst hin
   have hlt : ¬ ((i : Int) < (i : Int)) := by omega
   have hT := hS.out
   rw [show a.take i = a by rw [HN.out, List.take_length]] at hT
   have HT := Lib.hid hT
   clear hT
   go_wp2
   go_ret
   exact ⟨_, rfl, HT.out, hE0⟩
  ·have hlt : (i : Int) < (n : Int) := by omega
   obtain ⟨r, hr⟩ : ∃ x, a[i]? = some x := ⟨_, List.getElem?_eq_getElem (by rw [← HN.out]; exact hin)⟩
   obtain ⟨g, off, rfl, a1, n1, c1, hcell, hTL⟩ := HAT.out i _ hr
   have hc0 := hcell wr hE0
   have HTK := Lib.hid (take_next hr)
   have hrN := HL.out r (List.mem_of_getElem? hr)
   have HR := Lib.hid (And.intro hTL hrN)
   have hm : (r.length + 1) * (ka + 1) ≤ (N + 1) * (ka + 1) := Nat.mul_le_mul_right _ (by omega)
   have hm2 : r.length * (ka + 1) ≤ N * (ka + 1) := Nat.mul_le_mul_right _ (by omega)
   have HM := Lib.hid (And.intro (Nat.le_trans hm HK1.out) (show r.length * (ka + 1) ≤ KA by rw [HKA.out]; exact hm2))
   have hwr := hE0.size
   clear hcell hr hTL hm hm2
   go_wp2_with fail
   refine (vmake_calls ka _ r wr (HR.out.1.ext hE0) (by omega) HM.out.1).mono ?_
   rintro e w6 ⟨v6, rfl, hto, e6⟩
   obtain ⟨ad6, cap6, rfl, hl6, hat6⟩ := (hto.le HM.out.2).at
   have HAT6 := Lib.hid hat6
   have HSM := Lib.hid (hto.le HM.out.2).szs
   have hLr := mkV_len r
   obtain ⟨L, hL⟩ : ∃ L, L = (mkV r).length := ⟨_, rfl⟩
   rw [← hL] at hl6 hLr ⊢
   have HLL := Lib.hid hL
   have hs6 := e6.size
   have hE6 := hE0.trans e6
   have HS6 := Lib.hid (hS.out.ext e6)
   clear hc0 hto hat6 hL hS
   go_wp2_with fail
   obtain ⟨wo, hwo⟩ : ∃ wo : World, wo = wr := ⟨_, rfl⟩
   rw [← hwo] at hE0 hwr e6 hs6
   clear hwo
   go_loopw [7, 19] (fun s7 s19 wr => ∃ (j : Nat) (sv : Value), j ≤ L ∧ s19 = .int .i64 (j : Int) ∧ sv = s7 ∧ Hid (TO w.heap.size C wr sv (mkV (catP ((mkV r).take j) b))) ∧ Ext w6 wr) (fun _ s19 _ => ((L : Int) - intOf s19).toNat)
   case atStart => exact ⟨0, _, Nat.zero_le _, rfl, rfl, Lib.hid (TO.nil0 _ _ _), Ext.refl _⟩
   case round =>
    obtain ⟨j, sv, hj, rfl, rfl, HSV, hE6j⟩ := hrel
    have hEw := hE6.trans hE6j
    rcases Nat.eq_or_lt_of_le hj with hjn | hjn
    ·subst hjn
     have hlt2 : ¬ ((j : Int) < (j : Int)) := by omega
     obtain ⟨vs, hls, hvl, hvs⟩ := HS6.out.ext hE6j
     have hvi : vs.length = i := by rw [hvl, List.length_map, List.length_take, ← HN.out]; omega
     subst hvi
     have hP : TO w.heap.size C wr sv (prV r b) := by
      have := HSV.out
      rw [show (mkV r).take j = mkV r by rw [HLL.out, List.take_length]] at this
      exact this
     obtain ⟨ads, caps, hsv⟩ := hP.val
     have HP := Lib.hid hP
     have HLS := Lib.hid hls
     have HV := Lib.hid (And.intro hvl hvs)
     have hge := ownsRow_ge hls
     have HGE := Lib.hid hge
     have hwr := hEw.size
     clear hP hls hvl hvs HSV HS6 hge
     rw [hsv] at HP ⊢
     clear hsv
     go_wp2_with (first
      | (at_builtin; go_loud (refine wpList_append_V rfl _ _ 68 rfl 107 24 w.heap.size Try.underlying68 (by kernel_rfl) (by kernel_rfl) _ vs.length vs rfl (ownsRow_extI HLS.out ((Ext.refl _).alloc _)) ⟨wr.heap.size, 0, none⟩ (.slice ads (prV r b).length caps) rfl (cell_one_new _ _ _) rfl (by omega) (by omega) (by rw [alloc_size]; omega) ?_); intro g' cap2' w7 hls7 hg7 hwh7 hlt7)
      | fail)
     go_roundw
     case rel =>
      have hA := (Ext.refl wr).alloc (.cells #[.slice ads (prV r b).length caps] 107)
      refine ⟨vs.length + 1, some ⟨g', 0, none⟩, cap2', by omega, by simp, rfl, Lib.hid ?_, (hEw.trans hA).stepG hg7 HGE.out⟩
      have hLA := ownsRow_extI HLS.out hA
      rw [HTK.out, List.map_append]
      exact OV.app (w := wr.alloc (.cells #[.slice ads (prV r b).length caps] 107)) HV.out.1 (fun i u y h1 h2 => (HV.out.2 i u y h1 h2).ext hA) rfl hls7 (fun u y h => TO.grow h hLA hg7 (by decide) (by decide)) (TO.grow (HP.out.ext hA) hLA hg7 (by decide) (by decide))
     case measure => simp [intOf]; omega
    ·have hlt2 : (j : Int) < (L : Int) := by omega
     obtain ⟨x, hx⟩ : ∃ x, (mkV r)[j]? = some x := ⟨_, List.getElem?_eq_getElem (by rw [← HLL.out]; exact hjn)⟩
     have hx0 : 0 ≤ x.1 := (mkV_nf r).1.2 x (List.mem_of_getElem? hx)
     obtain ⟨g6, rfl, b', a1', n1', c1', a2', n2', c2', hcell, hFr, hsz⟩ := HAT6.out j x hx
     obtain ⟨xc, xq⟩ := x
     simp only at hcell hFr hsz hx0
     obtain ⟨hc0, hc1, hc2, hc3⟩ := hcell wr hE6j
     have HX := Lib.hid (And.intro (take_next hx) (hFr.isR hsz (by rw [LIM_eq]; omega)))
     obtain ⟨w5, hw5, e5, b5, s5⟩ := alloc1 wr #[.int .i64 xc, .bool b', .slice a1' n1' c1', .slice a2' n2' c2'] 106
     have E5 := hEw.trans e5
     have hwr := hEw.size
     have hszt : ∀ t ∈ (mkV r).take (j + 1), szQ t.2 ≤ KA := fun t ht => HSM.out t (List.mem_of_mem_take ht)
     have hl1 : ((mkV r).take (j + 1)).length ≤ N := by rw [List.length_take]; omega
     have hcl1 : (catP ((mkV r).take (j + 1)) b).length ≤ N * Nb := Nat.le_trans (catP_len HLB.out _) (Nat.mul_le_mul_right _ hl1)
     have hSZ : ∀ t ∈ mkV (catP ((mkV r).take (j + 1)) b), szQ t.2 ≤ C := sz_le (catP_szs hszt HSB.out) hcl1 (by rw [HC.out]; omega)
     have HSZ := Lib.hid hSZ
     clear hx hcell hFr hsz hszt hl1 hcl1 hSZ
     by_cases hcc : xc < (nb : Int)
     ·obtain ⟨cn, rfl⟩ : ∃ cn : Nat, xc = (cn : Int) := ⟨xc.toNat, by omega⟩
      have hcn : cn < nb := by omega
      obtain ⟨s, hs⟩ : ∃ y, b[cn]? = some y := ⟨_, List.getElem?_eq_getElem (by rw [← HNB.out]; exact hcn)⟩
      obtain ⟨gb, offb, rfl, sa, sn, sc, hscell, hsTL⟩ := HATB.out cn s hs
      have hsN := HLB.out s (List.mem_of_getElem? hs)
      have HCS := Lib.hid hscell
      have HSTL := Lib.hid hsTL
      have hcat : catP ((mkV r).take (j + 1)) b = catP ((mkV r).take j) b ++ scV xq s := by
       rw [HX.out.1, catP_snoc, if_pos (by rw [← HNB.out]; exact hcc)]
       have : b.getD (cn : Int).toNat [] = s := by simp [List.getD, hs]
       rw [this]
      have HCAT := Lib.hid hcat
      have hl0 : ((mkV r).take j).length ≤ N := by rw [List.length_take]; omega
      have hcl : (catP ((mkV r).take j) b).length ≤ N * Nb := Nat.le_trans (catP_len HLB.out _) (Nat.mul_le_mul_right _ hl0)
      have hml := mkV_len (catP ((mkV r).take j) b)
      have hax : ((mkV (catP ((mkV r).take j) b)).length + s.length + 1) * (C + KA + kb + 1) ≤ 34359738000 := by
       refine Nat.le_trans (Nat.mul_le_mul (show _ ≤ N * Nb + Nb + 1 by omega) (Nat.le_of_eq ?_)) HKK.out
       rw [HC.out]
       omega
      have HAX := Lib.hid (And.intro hax (show (mkV (catP ((mkV r).take j) b)).length + s.length ≤ 1073741824 by omega))
      clear hs hscell hsTL hcat hl0 hcl hml hax hsN
      go_wp2_with fail
      rw [← hw5]
      clear hw5 hc0 hc1 hc2 hc3
      refine wp_region_puts [] [PP.val (.pointer (some ⟨wr.heap.size, 1, none⟩)), PP.val (.agg #[.bool b', .slice a1' n1' c1', .slice a2' n2' c2']), PP.val (.slice (some ⟨gb, offb, none⟩) nb capb), PP.val (.pointer (some ⟨wr.heap.size, 0, none⟩)), PP.val (.int .i64 (cn : Int)), PP.val (.pointer (some ⟨gb, offb + cn, none⟩)), PP.val (.slice sa sn sc), PP.val (sv), PP.tO C (mkV (catP ((mkV r).take (j + 1)) b)), PP.tO C (mkV (catP ((mkV r).take (j + 1)) b))] [(7, 9, 7)] [0, 1, 2, 3, 4, 5, 6, 7, 8, 9]
       (by kernel_rfl) (by kernel_rfl) (fun f => (by simp only [fillR, fillL, List.setIfInBounds_toArray, List.set_cons_succ, List.set_cons_zero, Nat.reduceAdd]; rfl)) ?_ ?_ ?_ ?_ ?_
      ·intro x hx; cases hx
      ·intro x hx; cases hx
      ·intro x hx; cases hx
      ·refine ⟨?o0, ?o1, ?o2, ?o3, ?o4, ?o5, ?o6, ?o7, ?o8, ?o9, trivial⟩
       case o0 =>
        intro f w8 hG hp hl
        have hE : Ext w5 w8 := hG
        have hS := hE.size
        simp only [OpGoal]
        go_simp
        exact ⟨_, rfl, Ext.refl _, rfl⟩
       case o1 =>
        intro f w8 hG hp hl
        have hE : Ext w5 w8 := hG
        have hS := hE.size
        have q28 : f 0 = .pointer (some ⟨wr.heap.size, 1, none⟩) := tellV hp 0 0 rfl rfl (fun h => by cases h)
        have hbx := b5.ext hE
        have hcell0 := hbx.cell 0
        have hcell1 := hbx.cell 1
        have hcell2 := hbx.cell 2
        have hcell3 := hbx.cell 3
        simp only [OpGoal]
        go_simp
        exact ⟨_, rfl, Ext.refl _, rfl⟩
       case o2 =>
        intro f w8 hG hp hl
        have hE : Ext w5 w8 := hG
        have hS := hE.size
        simp only [OpGoal]
        go_simp
        exact ⟨_, rfl, Ext.refl _, rfl⟩
       case o3 =>
        intro f w8 hG hp hl
        have hE : Ext w5 w8 := hG
        have hS := hE.size
        simp only [OpGoal]
        go_simp
        exact ⟨_, rfl, Ext.refl _, rfl⟩
       case o4 =>
        intro f w8 hG hp hl
        have hE : Ext w5 w8 := hG
        have hS := hE.size
        have q31 : f 3 = .pointer (some ⟨wr.heap.size, 0, none⟩) := tellV hp 0 3 rfl rfl (fun h => by cases h)
        have hcell := (b5.ext hE).cell 0
        simp only [OpGoal]
        go_simp
        exact ⟨_, rfl, Ext.refl _, rfl⟩
       case o5 =>
        intro f w8 hG hp hl
        have hE : Ext w5 w8 := hG
        have hS := hE.size
        have q30 : f 2 = .slice (some ⟨gb, offb, none⟩) nb capb := tellV hp 0 2 rfl rfl (fun h => by cases h)
        have q32 : f 4 = .int .i64 (cn : Int) := tellV hp 1 4 rfl rfl (fun h => by cases h)
        simp only [OpGoal]
        go_simp
        exact ⟨_, rfl, Ext.refl _, rfl⟩
       case o6 =>
        intro f w8 hG hp hl
        have hE : Ext w5 w8 := hG
        have hS := hE.size
        have q33 : f 5 = .pointer (some ⟨gb, offb + cn, none⟩) := tellV hp 0 5 rfl rfl (fun h => by cases h)
        have hcell := HCS.out _ (E5.trans hE)
        simp only [OpGoal]
        go_simp
        exact ⟨_, rfl, Ext.refl _, rfl⟩
       case o7 =>
        intro f w8 hG hp hl
        have hE : Ext w5 w8 := hG
        have hS := hE.size
        have l7 : f 9 = sv := hl.1 rfl
        simp only [OpGoal]
        go_simp
        exact ⟨_, rfl, Ext.refl _, rfl⟩
       case o8 =>
        intro f w8 hG hp hl
        have hE : Ext w5 w8 := hG
        have hS := hE.size
        have q29 : f 1 = .agg #[.bool b', .slice a1' n1' c1', .slice a2' n2' c2'] := tellV hp 0 1 rfl rfl (fun h => by cases h)
        have q34 : f 6 = .slice sa sn sc := tellV hp 1 6 rfl rfl (fun h => by cases h)
        have q35 : f 7 = sv := tellV hp 2 7 rfl rfl (fun h => by cases h)
        change OpGoal _ _ _ f w8 Ext _
        refine og_call (P := Try.prog) _ _ _ #[f 1, f 6, f 7] Try.func94 (by kernel_rfl) (by kernel_rfl) rfl rfl (by kernel_rfl) ?_
        rw [q29, q34, q35]
        refine (vaxpy_calls KA kb C (C + KA + kb) _ _ _ xq s (mkV (catP ((mkV r).take j) b)) _ ((HX.out.2.ext (hE6j.trans e5)).ext hE) (HSTL.out.ext (E5.trans hE)) ((HSV.out.ext (e5.trans hE)).tl (by rw [LIM_eq]; omega)) (by omega) (by omega) HAX.out.2 HAX.out.1).mono ?_
        rintro e w' ⟨v', rfl, h1, h2⟩
        rw [mk_more, ← HCAT.out] at h1
        exact ⟨v', rfl, h2, (h1.to HSZ.out).mono hS⟩
       case o9 =>
        intro f w8 hG hp hl
        have hE : Ext w5 w8 := hG
        have hS := hE.size
        have q36 := tellV hp 0 8 rfl rfl (fun _ => hE)
        exact ⟨_, rfl, Ext.refl _, q36⟩
      ·intro f w8 hG hp
       have hE : Ext w5 w8 := ChgS.nil hG
       have q7 := endV hp 9 (by decide) rfl (fun _ => hE)
       clear hp
       have HQ := Lib.hid (show TO w5.heap.size C w8 _ (mkV (catP ((mkV r).take (j + 1)) b)) from q7)
       have hw58 := E5.size
       clear q7
       go_wp2
       go_roundw
       case rel => exact ⟨j + 1, _, by omega, congrArg (Value.int .i64) (by omega), rfl, Lib.hid (HQ.out.mono hw58), (hE6j.trans e5).trans hE⟩
       case measure => simp [intOf]; omega
     ·have hcat : catP ((mkV r).take (j + 1)) b = catP ((mkV r).take j) b := by
       rw [HX.out.1, catP_snoc, if_neg (by rw [← HNB.out]; exact hcc), List.append_nil]
      have HCAT := Lib.hid hcat
      clear hcat
      go_wp2
      go_roundw
      case rel =>
       rw [← hw5]
       exact ⟨j + 1, _, by omega, congrArg (Value.int .i64) (by omega), rfl, Lib.hid (by rw [HCAT.out]; exact HSV.out.ext e5), hE6j.trans e5⟩
      case measure => simp [intOf]; omega
end Go.Proofs.Ytdmjgjcljbogiaa
/-
 Matrices: plain: turned back, the columns are the rows.
-/
namespace Go.Proofs.Ytdmjgjcljbogiaa
set_option maxRecDepth 100000
set_option maxHeartbeats 1000000
open Go.RowKit
set_option linter.unusedVariables false
set_option linter.unusedSimpArgs false
/-! Plain: turned back, the columns are the rows. -/
theorem colP_nf (rows : List (List (Int × Rat))) (i : Nat) (c : Int) : Nf (colP rows i c) := (rng_up (fun j => getV (rows.getD j []) c) i).nz
theorem colP_get (rows : List (List (Int × Rat))) (i : Nat) (c d : Int) : getV (colP rows i c) d = if 0 ≤ d ∧ d < (i : Int) then getV (rows.getD d.toNat []) c else 0 := (getV_nz _ _).trans (rng_get (fun j => getV (rows.getD j []) c) d i)
theorem transV_mem {rows : List (List (Int × Rat))} {n : Nat} {r : List (Int × Rat)} (h : r ∈ transV rows n) : ∃ c : Nat, c < n ∧ r = colP rows rows.length (c : Int) := by
 unfold transV at h
 obtain ⟨c, hc, rfl⟩ := List.mem_map.1 h
 exact ⟨c, List.mem_range.1 hc, rfl⟩
theorem transV_rows {rows : List (List (Int × Rat))} {n : Nat} : ∀ r ∈ transV rows n, r.length ≤ rows.length := fun r hr => by
 obtain ⟨c, -, rfl⟩ := transV_mem hr
 exact colP_len _ _ _
end Go.Proofs.Ytdmjgjcljbogiaa
/-
 The law MatGroups.
-/
namespace Go.Proofs.Ytdmjgjcljbogiaa
set_option maxRecDepth 100000
set_option maxHeartbeats 1000000
open Go.RowKit
set_option linter.unusedVariables false
set_option linter.unusedSimpArgs false
/-! Plain: the columns of a product. -/
theorem prV_len2 {r : List (Int × Rat)} {b : List (List (Int × Rat))} {N Nb : Nat} (hr : r.length ≤ N) (hb : ∀ s ∈ b, s.length ≤ Nb) : (prV r b).length ≤ N * Nb := by
 have h1 := mkV_len (catP (mkV r) b)
 have h2 := catP_len hb (mkV r)
 have h3 := mkV_len r
 have h4 : (mkV r).length * Nb ≤ N * Nb := Nat.mul_le_mul_right _ (by omega)
 unfold prV
 omega
theorem getD_row {b : List (List (Int × Rat))} {j : Nat} (h : j < b.length) : b.getD j [] = b[j] := by rw [List.getD_eq_getElem?_getD, List.getElem?_eq_getElem h]; rfl
theorem tr_pr_ok {a b : List (List (Int × Rat))} {n : Int} (h : trOk b n = true) : trOk (a.map fun r => prV r b) n = true := by
 unfold trOk at h
 simp only [Bool.and_eq_true, List.all_eq_true, decide_eq_true_eq] at h
 obtain ⟨⟨h0, h1⟩, h2⟩ := h
 refine trOk_good h0 h1 fun s hs x hx => ?_
 obtain ⟨r, hr, rfl⟩ := List.mem_map.1 hs
 rw [mkV_self (prV_nf r b)] at hx
 refine Classical.byContradiction fun hn => (prV_nf r b).2 x hx ?_
 rw [← (prV_nf r b).1.mem_get x hx, prV_sum, sumN_congr (g := fun _ => 0) (fun j hj => ?_), sumN_zero]
 have hz : getV (mkV b[j]) x.1 = 0 := getV_none (fun y hy => by have := h2 _ (List.getElem_mem hj) y hy; omega)
 rw [mkV_get] at hz
 rw [getD_row hj, hz, Rat.mul_zero]
theorem tr_pr_eq (a b : List (List (Int × Rat))) (n : Nat) : transV (a.map fun r => prV r b) n = (transV b n).map fun r => prV r (transV a b.length) := by
 apply List.ext_getElem?
 intro c
 rw [List.getElem?_map]
 rcases Nat.lt_or_ge c n with hc | hc
 ·rw [transV_get _ hc, transV_get _ hc, List.length_map]
  simp only [Option.map_some, Option.some.injEq]
  refine nf_ext (colP_nf _ _ _) (prV_nf _ _) fun d => ?_
  rw [colP_get, prV_sum, transV_len]
  by_cases hd : 0 ≤ d ∧ d < (a.length : Int)
  ·rw [if_pos hd]
   have hlt : d.toNat < a.length := by omega
   have e : (a.map fun r => prV r b).getD d.toNat [] = prV a[d.toNat] b := by rw [List.getD_eq_getElem?_getD, List.getElem?_map, List.getElem?_eq_getElem hlt]; rfl
   rw [e, prV_sum]
   refine sumN_congr fun j hj => ?_
   have e2 : (transV a b.length).getD j [] = colP a a.length (j : Int) := by rw [List.getD_eq_getElem?_getD, transV_get _ hj]; rfl
   rw [colP_get, if_pos ⟨by omega, by omega⟩, Int.toNat_natCast, e2, colP_get, if_pos hd, getD_row hlt, Rat.mul_comm]
  ·rw [if_neg hd, sumN_congr (g := fun _ => 0) (fun j hj => ?_), sumN_zero]
   have e2 : (transV a b.length).getD j [] = colP a a.length (j : Int) := by rw [List.getD_eq_getElem?_getD, transV_get _ hj]; rfl
   have hz : getV (colP a a.length (j : Int)) d = 0 := by rw [colP_get, if_neg hd]
   rw [e2, hz, Rat.mul_zero]
 ·rw [List.getElem?_eq_none (by rw [transV_len]; exact hc), List.getElem?_eq_none (by rw [transV_len]; exact hc)]
  rfl
theorem times_pr (a b : List (List (Int × Rat))) (xs : List Rat) : timesM (a.map fun r => prV r b) xs = timesM a (timesM b xs) := by
 unfold timesM
 rw [List.map_map]
 exact List.map_congr_left fun r _ => dot_pr r b xs
set_option maxHeartbeats 8000000 in
theorem matGroups_calls (v u z : Value) (ms ns : List (List TE)) (xl : List RE) (w : World) (hv : MLE w v ms) (hb : ms.length ≤ 281474976710656) (hu : MLE w u ns) (hb2 : ns.length ≤ 281474976710656) (hz : SLQ w z xl) :
  Calls Try.prog 9 #[v, u, z] w fun e w' => e = .returned (.bool true) ∧ Ext w w' := by
 have HV := Lib.hid hv
 have HU := Lib.hid hu
 have HZ := Lib.hid hz
 obtain ⟨adu, n, capu, hnl, rfl, hn1, -⟩ := hu.at
 have HN := Lib.hid hnl
 have lim : (400000000 : Nat) ≤ LIM := by rw [LIM_eq]; omega
 clear hv hu hz hnl
 go_enter Try.func9, Try.ntmps9
 go_wp2_with fail
 refine (speaks6_calls _).mono ?_
 rintro e w2 ⟨rfl, e2⟩
 go_wp2_with fail
 refine (greatM_calls _ ms w2 (HV.out.ext e2) hb).mono ?_
 rintro e w3 ⟨rfl, e3⟩
 obtain ⟨p, hp⟩ : ∃ p, p = greatM ms := ⟨_, rfl⟩
 rw [← hp]
 have HP := Lib.hid hp
 clear hp
 have E3 := e2.trans e3
 cases p with
 | true =>
  go_wp2
  go_ret
  exact ⟨rfl, E3⟩
 | false =>
 go_wp2_with fail
 refine (greatM_calls _ ns w3 (HU.out.ext E3) hb2).mono ?_
 rintro e w4 ⟨rfl, e4⟩
 obtain ⟨q, hq⟩ : ∃ q, q = greatM ns := ⟨_, rfl⟩
 rw [← hq]
 have HQ := Lib.hid hq
 clear hq
 have E4 := E3.trans e4
 cases q with
 | true =>
  go_wp2
  go_ret
  exact ⟨rfl, E4⟩
 | false =>
 go_wp2_with fail
 refine (greatAll_calls _ xl w4 (HZ.out.ext E4)).mono ?_
 rintro e w5 ⟨rfl, e5⟩
 obtain ⟨s, hs⟩ : ∃ s, s = greatE xl := ⟨_, rfl⟩
 rw [← hs]
 have HR := Lib.hid hs
 clear hs
 have E5 := E4.trans e5
 cases s with
 | true =>
  go_wp2
  go_ret
  exact ⟨rfl, E5⟩
 | false =>
 obtain ⟨m1, m2⟩ := greatM_not HP.out.symm
 obtain ⟨n1, n2⟩ := greatM_not HQ.out.symm
 obtain ⟨x1, x2⟩ := greatE_not HR.out.symm
 obtain ⟨A, hA⟩ : ∃ A, A = ms.map ratT := ⟨_, rfl⟩
 obtain ⟨B, hB⟩ : ∃ B, B = ns.map ratT := ⟨_, rfl⟩
 obtain ⟨X, hX⟩ : ∃ X, X = xl.map ratE := ⟨_, rfl⟩
 have hAl : A.length ≤ 12 := by rw [hA, List.length_map]; exact m1
 have hBl : B.length = n := by rw [hB, List.length_map, HN.out]
 have hn12 : n ≤ 12 := by rw [HN.out]; exact n1
 have HAL := Lib.hid (show ∀ r ∈ A, r.length ≤ 30 by rw [hA]; exact ratT_len ms fun l hl => (m2 l hl).1)
 have HBL := Lib.hid (show ∀ r ∈ B, r.length ≤ 30 by rw [hB]; exact ratT_len ns fun l hl => (n2 l hl).1)
 have toA : ∀ {w' : World} {v' : Value}, MLE w' v' ms → ML 6 w' v' A := fun h => by rw [hA]; exact h.ml 6 (by omega) (by omega) fun l hl e he => (m2 l hl).2 e he
 have toB : ∀ {w' : World} {v' : Value}, MLE w' v' ns → ML 6 w' v' B := fun h => by rw [hB]; exact h.ml 6 (by omega) (by omega) fun l hl e he => (n2 l hl).2 e he
 have toX : ∀ {w' : World} {v' : Value}, SLQ w' v' xl → QL 6 w' v' X := fun h => by rw [hX]; exact h.ql 6 (by omega) (by omega) x2
 have TM := Lib.hid (And.intro @toA (And.intro @toB @toX))
 have HPL : Hid (∀ r ∈ A.map (fun r => prV r B), r.length ≤ 900) := Lib.hid fun s hs => by
  obtain ⟨r, hr, rfl⟩ := List.mem_map.1 hs
  have := prV_len2 (HAL.out r hr) HBL.out
  omega
 have hPl : (A.map fun r => prV r B).length ≤ 1000000 := by rw [List.length_map]; omega
 have HBN := Lib.hid hBl
 clear m2 n2 x2 hA hB hX toA toB toX HP HQ HR e2 e3 e4 e5 E3 E4 hBl
 go_wp2_with fail
 refine (product_calls 6 6 30 30 _ _ A B w5 (TM.out.1 (HV.out.ext E5)) (TM.out.2.1 (HU.out.ext E5)) HAL.out HBL.out (by omega) (by omega) (by omega) (by omega) (by omega)).mono ?_
 rintro e w6 ⟨v6, rfl, r6, e6⟩
 have R6 := Lib.hid (r6.ml (show 30 * 30 * (30 * (6 + 1) + 6 + 1) + 1 ≤ LIM by omega))
 have E6 := E5.trans e6
 clear r6
 go_wp2_with fail
 refine (times_calls 195301 6 900 _ _ _ X w6 R6.out (TM.out.2.2 (HZ.out.ext E6)) HPL.out hPl (by omega)).mono ?_
 rintro e w7 ⟨v7, rfl, r7, e7⟩
 rw [times_pr] at r7
 have R7 := Lib.hid (OL.slq r7 (by omega))
 have E7 := E6.trans e7
 clear r7 R6
 go_wp2_with fail
 refine (times_calls 6 6 30 _ _ B X w7 (TM.out.2.1 (HU.out.ext E7)) (TM.out.2.2 (HZ.out.ext E7)) HBL.out (by rw [HBN.out]; omega) (by omega)).mono ?_
 rintro e w8 ⟨v8, rfl, r8, e8⟩
 have R8 := Lib.hid (OL.ql r8 (by omega))
 have E8 := E7.trans e8
 clear r8
 go_wp2_with fail
 refine (times_calls 6 391 30 _ _ A (timesM B X) w8 (TM.out.1 (HV.out.ext E8)) R8.out HAL.out (by omega) (by omega)).mono ?_
 rintro e w9 ⟨v9, rfl, r9, e9⟩
 have R9 := Lib.hid (And.intro (R7.out.ext (e8.trans e9)) (OL.slq r9 (by omega)))
 have E9 := E8.trans e9
 clear r9 R7 R8
 go_wp2_with fail
 refine (sameAll_true _ _ _ w9 R9.out.1 R9.out.2).mono ?_
 rintro e w10 ⟨rfl, e10⟩
 have E10 := E9.trans e10
 clear R9 e6 e7 e8 e9 e10 E5 E6 E7 E8 E9
 go_wp2_with fail
 refine (transpose_calls 6 30 _ (n : Int) A w10 (TM.out.1 (HV.out.ext E10)) HAL.out (by omega) (by omega) (by omega)).mono ?_
 rintro e w11 ⟨v11, rfl, r11, -, e11⟩
 obtain ⟨ok1, hok1⟩ : ∃ ok, ok = trOk A (n : Int) := ⟨_, rfl⟩
 rw [← hok1] at r11 ⊢
 have R11 := Lib.hid r11
 have E11 := E10.trans e11
 obtain ⟨y1, hy1⟩ : ∃ y, y = scE ok1 := ⟨_, rfl⟩
 rw [← hy1]
 clear r11 hok1
 go_wp2_with fail
 refine (transpose_calls 6 30 _ 10 B w11 (TM.out.2.1 (HU.out.ext E11)) HBL.out (by omega) (by rw [HBN.out]; omega) (by omega)).mono ?_
 rintro e w12 ⟨v12, rfl, r12, -, e12⟩
 obtain ⟨ok2, hok2⟩ : ∃ ok, ok = trOk B 10 := ⟨_, rfl⟩
 rw [← hok2] at r12 ⊢
 have HOK2 := Lib.hid hok2
 have R12 := Lib.hid r12
 have E12 := E11.trans e12
 obtain ⟨y2, hy2⟩ : ∃ y, y = scE ok2 := ⟨_, rfl⟩
 rw [← hy2]
 clear r12 hok2
 go_wp2_with fail
 refine (product_calls 6 6 30 30 _ _ A B w12 (TM.out.1 (HV.out.ext E12)) (TM.out.2.1 (HU.out.ext E12)) HAL.out HBL.out (by omega) (by omega) (by omega) (by omega) (by omega)).mono ?_
 rintro e w13 ⟨v13, rfl, r13, e13⟩
 have R13 := Lib.hid (r13.ml (show 30 * 30 * (30 * (6 + 1) + 6 + 1) + 1 ≤ LIM by omega))
 have E13 := E12.trans e13
 clear r13
 go_wp2_with fail
 refine (transpose_calls 195301 900 _ 10 (A.map fun r => prV r B) w13 R13.out HPL.out (by omega) hPl (by omega)).mono ?_
 rintro e w14 ⟨v14, rfl, r14, -, e14⟩
 obtain ⟨ok3, hok3⟩ : ∃ ok, ok = trOk (A.map fun r => prV r B) 10 := ⟨_, rfl⟩
 rw [← hok3] at r14 ⊢
 have HOK3 := Lib.hid hok3
 have R14 := Lib.hid r14
 have E14 := E13.trans e14
 obtain ⟨y3, hy3⟩ : ∃ y, y = scE ok3 := ⟨_, rfl⟩
 rw [← hy3]
 have X1114 := (e12.trans e13).trans e14
 have X1214 := e13.trans e14
 clear r14 hok3 R13
 cases ok1 with
 | false =>
  have hz1 : y1 = 2 := hy1
  subst hz1
  clear hy1 hy2 hy3
  go_wp2
  go_ret
  exact ⟨rfl, E14⟩
 | true =>
 have hz1 : y1 = 0 := hy1
 subst hz1
 clear hy1
 cases ok2 with
 | false =>
  have hz2 : y2 = 2 := hy2
  subst hz2
  clear hy2 hy3
  go_wp2
  go_ret
  exact ⟨rfl, E14⟩
 | true =>
 have hz2 : y2 = 0 := hy2
 subst hz2
 clear hy2
 have h3 : ok3 = true := by rw [HOK3.out]; exact tr_pr_ok HOK2.out.symm
 subst h3
 have hz3 : y3 = 0 := hy3
 subst hz3
 have t11 := R11.out rfl
 have t12 := R12.out rfl
 have t14 := R14.out rfl
 rw [show (10 : Int).toNat = 10 from rfl] at t12 t14
 rw [Int.toNat_natCast] at t11
 rw [tr_pr_eq, HBN.out] at t14
 have T11 := Lib.hid ((t11.ext X1114).ml (show 30 * (6 + 1) ≤ LIM by omega))
 have T12 := Lib.hid ((t12.ext X1214).ml (show 30 * (6 + 1) ≤ LIM by omega))
 have T14 := Lib.hid (t14.mle (by omega))
 clear hy3 t11 t12 t14 R11 R12 R14
 go_wp2_with fail
 refine (product_calls 210 210 12 12 _ _ (transV B 10) (transV A n) w14 T12.out T11.out (fun r hr => by have := transV_rows r hr; rw [HBN.out] at this; omega) (fun r hr => by have := transV_rows r hr; omega) (by rw [transV_len]; omega) (by omega) (by omega) (by omega) (by omega)).mono ?_
 rintro e w15 ⟨v15, rfl, r15, e15⟩
 have R15 := Lib.hid (And.intro (T14.out.ext e15) (r15.mle (by omega)))
 clear r15
 go_wp2_with fail
 refine (sameM_true _ _ _ w15 R15.out.1 R15.out.2).mono ?_
 rintro e w16 ⟨rfl, e16⟩
 go_wp2
 go_ret
 exact ⟨rfl, (E14.trans e15).trans e16⟩
end Go.Proofs.Ytdmjgjcljbogiaa
