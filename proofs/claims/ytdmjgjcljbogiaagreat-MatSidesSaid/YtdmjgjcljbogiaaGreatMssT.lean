/-
 The documents' matrices: a matrix times a list, a list times a matrix, the product of two.
-/
import Derived.Test.YtdmjgjcljbogiaaGreatMaaT
namespace Go.Proofs.YtdmjgjcljbogiaaGreat
set_option maxRecDepth 100000
set_option maxHeartbeats 1000000
open Go.RowKit
set_option linter.unusedVariables false
set_option linter.unusedSimpArgs false
end Go.Proofs.YtdmjgjcljbogiaaGreat
/-
 The law MatTimes.
-/
namespace Go.Proofs.YtdmjgjcljbogiaaGreat
set_option maxRecDepth 100000
set_option maxHeartbeats 1000000
open Go.RowKit
set_option linter.unusedVariables false
set_option linter.unusedSimpArgs false
theorem ratT_len (ms : List (List TE)) {n : Nat} (h : ∀ l ∈ ms, l.length ≤ n) : ∀ r ∈ ms.map ratT, r.length ≤ n := by
 intro r hr
 obtain ⟨l, hl, rfl⟩ := List.mem_map.1 hr
 unfold ratT
 rw [List.length_map]
 exact h l hl
end Go.Proofs.YtdmjgjcljbogiaaGreat
/-
 Matrices: the product of two (mat.Product).
-/
namespace Go.Proofs.YtdmjgjcljbogiaaGreat
set_option maxRecDepth 100000
set_option maxHeartbeats 1000000
open Go.RowKit
set_option linter.unusedVariables false
set_option linter.unusedSimpArgs false
set_option maxHeartbeats 8000000 in
theorem product_calls (ka kb N Nb : Nat) (v u : Value) (a b : List (List (Int × Rat))) (w : World) (ha : ML ka w v a) (hb : ML kb w u b) (hN : ∀ r ∈ a, r.length ≤ N) (hNb : ∀ r ∈ b, r.length ≤ Nb) (hn : a.length ≤ 1000000) (hn30 : N * Nb + Nb ≤ 1073741824) (hN30 : N ≤ 1073741824)
  (hK1 : (N + 1) * (ka + 1) ≤ 34359738000) (hK : (N * Nb + Nb + 1) * (N * Nb * (N * (ka + 1) + kb + 1) + N * (ka + 1) + kb + 2) ≤ 34359738000) :
  Calls Tryz.prog 26 #[v, u] w fun e w' => ∃ v', e = .returned v' ∧ MO w.heap.size (N * Nb * (N * (ka + 1) + kb + 1) + 1) w' v' (a.map fun r => prV r b) ∧ Ext w w' := by
 obtain ⟨ad, n, cap, hnl, rfl, hn1, hat⟩ := ha.at
 obtain ⟨adb, nb, capb, hnb, rfl, hnb1, hatb⟩ := hb.at
 obtain ⟨KA, hKA⟩ : ∃ KA, KA = N * (ka + 1) := ⟨_, rfl⟩
 rw [← hKA] at hK
 obtain ⟨C, hC⟩ : ∃ C, C = N * Nb * (KA + kb + 1) + 1 := ⟨_, rfl⟩
 have hCL : C + KA ≤ 34359738000 := by
  have h1 : 1 * (N * Nb * (KA + kb + 1) + KA + kb + 2) ≤ (N * Nb + Nb + 1) * (N * Nb * (KA + kb + 1) + KA + kb + 2) := Nat.mul_le_mul_right _ (by omega)
  omega
 rw [← hKA, ← hC]
 rw [← hnl] at hn
 have HKK := Lib.hid hK
 have HK1 := Lib.hid hK1
 have HKA := Lib.hid hKA
 have HC := Lib.hid hC
 have HSB := Lib.hid hb.szs
 have HN := Lib.hid hnl
 have HNB := Lib.hid hnb
 have HAT := Lib.hid hat
 have HATB := Lib.hid hatb
 have HL := Lib.hid hN
 have HLB := Lib.hid hNb
 clear hnl hnb hat hatb ha hb hN hNb hC hK hK1 hKA
 go_enter Tryz.func26, Tryz.ntmps26
 go_wp2_with fail
 go_loopw [4, 12] (fun s4 s12 wr => ∃ (i : Nat) (ado : Option Addr) (capo : Nat), i ≤ n ∧ s12 = .int .i64 (i : Int) ∧ s4 = .slice ado i capo ∧ Hid (MO w.heap.size C wr (.slice ado i capo) ((a.take i).map fun r => prV r b)) ∧ Ext w wr) (fun _ s12 _ => ((n : Int) - intOf s12).toNat)
 case atStart => exact ⟨0, none, 0, Nat.zero_le _, rfl, rfl, Lib.hid (MO.nil _ _ _), Ext.refl _⟩
 case round =>
  obtain ⟨i, ado, capo, hi, rfl, rfl, hS, hE0⟩ := hrel
  rcases Nat.eq_or_lt_of_le hi with hin | hin
  ·subst hin
   have hlt : ¬ ((i : Int) < (i : Int)) := by omega
   have hT := hS.out
   rw [show a.take i = a by rw [HN.out, List.take_length]] at hT
   have HT := Lib.hid hT
   clear hT
   go_wp2
   go_ret
   exact ⟨_, rfl, HT.out, hE0⟩
  ·have hlt : (i : Int) < (n : Int) := by omega
   obtain ⟨r, hr⟩ : ∃ x, a[i]? = some x := ⟨_, List.getElem?_eq_getElem (by rw [← HN.out]; exact hin)⟩
   obtain ⟨g, off, rfl, a1, n1, c1, hcell, hTL⟩ := HAT.out i _ hr
   have hc0 := hcell wr hE0
   have HTK := Lib.hid (take_next hr)
   have hrN := HL.out r (List.mem_of_getElem? hr)
   have HR := Lib.hid (And.intro hTL hrN)
   have hm : (r.length + 1) * (ka + 1) ≤ (N + 1) * (ka + 1) := Nat.mul_le_mul_right _ (by omega)
   have hm2 : r.length * (ka + 1) ≤ N * (ka + 1) := Nat.mul_le_mul_right _ (by omega)
   have HM := Lib.hid (And.intro (Nat.le_trans hm HK1.out) (show r.length * (ka + 1) ≤ KA by rw [HKA.out]; exact hm2))
   have hwr := hE0.size
   clear hcell hr hTL hm hm2
   go_wp2_with fail
   refine (vmake_calls ka _ r wr (HR.out.1.ext hE0) (by omega) HM.out.1).mono ?_
   rintro e w6 ⟨v6, rfl, hto, e6⟩
   obtain ⟨ad6, cap6, rfl, hl6, hat6⟩ := (hto.le HM.out.2).at
   have HAT6 := Lib.hid hat6
   have HSM := Lib.hid (hto.le HM.out.2).szs
   have hLr := mkV_len r
   obtain ⟨L, hL⟩ : ∃ L, L = (mkV r).length := ⟨_, rfl⟩
   rw [← hL] at hl6 hLr ⊢
   have HLL := Lib.hid hL
   have hs6 := e6.size
   have hE6 := hE0.trans e6
   have HS6 := Lib.hid (hS.out.ext e6)
   clear hc0 hto hat6 hL hS
   go_wp2_with fail
   obtain ⟨wo, hwo⟩ : ∃ wo : World, wo = wr := ⟨_, rfl⟩
   rw [← hwo] at hE0 hwr e6 hs6
   clear hwo
   go_loopw [7, 19] (fun s7 s19 wr => ∃ (j : Nat) (sv : Value), j ≤ L ∧ s19 = .int .i64 (j : Int) ∧ sv = s7 ∧ Hid (TO w.heap.size C wr sv (mkV (catP ((mkV r).take j) b))) ∧ Ext w6 wr) (fun _ s19 _ => ((L : Int) - intOf s19).toNat)
   case atStart => exact ⟨0, _, Nat.zero_le _, rfl, rfl, Lib.hid (TO.nil0 _ _ _), Ext.refl _⟩
   case round =>
    obtain ⟨j, sv, hj, rfl, rfl, HSV, hE6j⟩ := hrel
    have hEw := hE6.trans hE6j
    rcases Nat.eq_or_lt_of_le hj with hjn | hjn
    ·subst hjn
     have hlt2 : ¬ ((j : Int) < (j : Int)) := by omega
     obtain ⟨vs, hls, hvl, hvs⟩ := HS6.out.ext hE6j
     have hvi : vs.length = i := by rw [hvl, List.length_map, List.length_take, ← HN.out]; omega
     subst hvi
     have hP : TO w.heap.size C wr sv (prV r b) := by
      have := HSV.out
      rw [show (mkV r).take j = mkV r by rw [HLL.out, List.take_length]] at this
      exact this
     obtain ⟨ads, caps, hsv⟩ := hP.val
     have HP := Lib.hid hP
     have HLS := Lib.hid hls
     have HV := Lib.hid (And.intro hvl hvs)
     have hge := ownsRow_ge hls
     have HGE := Lib.hid hge
     have hwr := hEw.size
     clear hP hls hvl hvs HSV HS6 hge
     rw [hsv] at HP ⊢
     clear hsv
     go_wp2_with (first
      | (at_builtin; go_loud (refine wpList_append_V rfl _ _ 22 rfl 40 24 w.heap.size Tryz.underlying22 (by kernel_rfl) (by kernel_rfl) _ vs.length vs rfl (ownsRow_extI HLS.out ((Ext.refl _).alloc _)) ⟨wr.heap.size, 0, none⟩ (.slice ads (prV r b).length caps) rfl (cell_one_new _ _ _) rfl (by omega) (by omega) (by rw [alloc_size]; omega) ?_); intro g' cap2' w7 hls7 hg7 hwh7 hlt7)
      | fail)
     go_roundw
     case rel =>
      have hA := (Ext.refl wr).alloc (.cells #[.slice ads (prV r b).length caps] 40)
      refine ⟨vs.length + 1, some ⟨g', 0, none⟩, cap2', by omega, by simp, rfl, Lib.hid ?_, (hEw.trans hA).stepG hg7 HGE.out⟩
      have hLA := ownsRow_extI HLS.out hA
      rw [HTK.out, List.map_append]
      exact OV.app (w := wr.alloc (.cells #[.slice ads (prV r b).length caps] 40)) HV.out.1 (fun i u y h1 h2 => (HV.out.2 i u y h1 h2).ext hA) rfl hls7 (fun u y h => TO.grow h hLA hg7 (by decide) (by decide)) (TO.grow (HP.out.ext hA) hLA hg7 (by decide) (by decide))
     case measure => simp [intOf]; omega
    ·have hlt2 : (j : Int) < (L : Int) := by omega
     obtain ⟨x, hx⟩ : ∃ x, (mkV r)[j]? = some x := ⟨_, List.getElem?_eq_getElem (by rw [← HLL.out]; exact hjn)⟩
     have hx0 : 0 ≤ x.1 := (mkV_nf r).1.2 x (List.mem_of_getElem? hx)
     obtain ⟨g6, rfl, b', a1', n1', c1', a2', n2', c2', hcell, hFr, hsz⟩ := HAT6.out j x hx
     obtain ⟨xc, xq⟩ := x
     simp only at hcell hFr hsz hx0
     obtain ⟨hc0, hc1, hc2, hc3⟩ := hcell wr hE6j
     have HX := Lib.hid (And.intro (take_next hx) (hFr.isR hsz (by rw [LIM_eq]; omega)))
     obtain ⟨w5, hw5, e5, b5, s5⟩ := alloc1 wr #[.int .i64 xc, .bool b', .slice a1' n1' c1', .slice a2' n2' c2'] 66
     have E5 := hEw.trans e5
     have hwr := hEw.size
     have hszt : ∀ t ∈ (mkV r).take (j + 1), szQ t.2 ≤ KA := fun t ht => HSM.out t (List.mem_of_mem_take ht)
     have hl1 : ((mkV r).take (j + 1)).length ≤ N := by rw [List.length_take]; omega
     have hcl1 : (catP ((mkV r).take (j + 1)) b).length ≤ N * Nb := Nat.le_trans (catP_len HLB.out _) (Nat.mul_le_mul_right _ hl1)
     have hSZ : ∀ t ∈ mkV (catP ((mkV r).take (j + 1)) b), szQ t.2 ≤ C := sz_le (catP_szs hszt HSB.out) hcl1 (by rw [HC.out]; omega)
     have HSZ := Lib.hid hSZ
     clear hx hcell hFr hsz hszt hl1 hcl1 hSZ
     by_cases hcc : xc < (nb : Int)
     ·obtain ⟨cn, rfl⟩ : ∃ cn : Nat, xc = (cn : Int) := ⟨xc.toNat, by omega⟩
      have hcn : cn < nb := by omega
      obtain ⟨s, hs⟩ : ∃ y, b[cn]? = some y := ⟨_, List.getElem?_eq_getElem (by rw [← HNB.out]; exact hcn)⟩
      obtain ⟨gb, offb, rfl, sa, sn, sc, hscell, hsTL⟩ := HATB.out cn s hs
      have hsN := HLB.out s (List.mem_of_getElem? hs)
      have HCS := Lib.hid hscell
      have HSTL := Lib.hid hsTL
      have hcat : catP ((mkV r).take (j + 1)) b = catP ((mkV r).take j) b ++ scV xq s := by
       rw [HX.out.1, catP_snoc, if_pos (by rw [← HNB.out]; exact hcc)]
       have : b.getD (cn : Int).toNat [] = s := by simp [List.getD, hs]
       rw [this]
      have HCAT := Lib.hid hcat
      have hl0 : ((mkV r).take j).length ≤ N := by rw [List.length_take]; omega
      have hcl : (catP ((mkV r).take j) b).length ≤ N * Nb := Nat.le_trans (catP_len HLB.out _) (Nat.mul_le_mul_right _ hl0)
      have hml := mkV_len (catP ((mkV r).take j) b)
      have hax : ((mkV (catP ((mkV r).take j) b)).length + s.length + 1) * (C + KA + kb + 1) ≤ 34359738000 := by
       refine Nat.le_trans (Nat.mul_le_mul (show _ ≤ N * Nb + Nb + 1 by omega) (Nat.le_of_eq ?_)) HKK.out
       rw [HC.out]
       omega
      have HAX := Lib.hid (And.intro hax (show (mkV (catP ((mkV r).take j) b)).length + s.length ≤ 1073741824 by omega))
      clear hs hscell hsTL hcat hl0 hcl hml hax hsN
      go_wp2_with fail
      rw [← hw5]
      clear hw5 hc0 hc1 hc2 hc3
      refine wp_region_puts [] [PP.val (.pointer (some ⟨wr.heap.size, 1, none⟩)), PP.val (.agg #[.bool b', .slice a1' n1' c1', .slice a2' n2' c2']), PP.val (.slice (some ⟨gb, offb, none⟩) nb capb), PP.val (.pointer (some ⟨wr.heap.size, 0, none⟩)), PP.val (.int .i64 (cn : Int)), PP.val (.pointer (some ⟨gb, offb + cn, none⟩)), PP.val (.slice sa sn sc), PP.val (sv), PP.tO C (mkV (catP ((mkV r).take (j + 1)) b)), PP.tO C (mkV (catP ((mkV r).take (j + 1)) b))] [(7, 9, 7)] [0, 1, 2, 3, 4, 5, 6, 7, 8, 9]
       (by kernel_rfl) (by kernel_rfl) (fun f => (by simp only [fillR, fillL, List.setIfInBounds_toArray, List.set_cons_succ, List.set_cons_zero, Nat.reduceAdd]; rfl)) ?_ ?_ ?_ ?_ ?_
      ·intro x hx; cases hx
      ·intro x hx; cases hx
      ·intro x hx; cases hx
      ·refine ⟨?o0, ?o1, ?o2, ?o3, ?o4, ?o5, ?o6, ?o7, ?o8, ?o9, trivial⟩
       case o0 =>
        intro f w8 hG hp hl
        have hE : Ext w5 w8 := hG
        have hS := hE.size
        simp only [OpGoal]
        go_simp
        exact ⟨_, rfl, Ext.refl _, rfl⟩
       case o1 =>
        intro f w8 hG hp hl
        have hE : Ext w5 w8 := hG
        have hS := hE.size
        have q28 : f 0 = .pointer (some ⟨wr.heap.size, 1, none⟩) := tellV hp 0 0 rfl rfl (fun h => by cases h)
        have hbx := b5.ext hE
        have hcell0 := hbx.cell 0
        have hcell1 := hbx.cell 1
        have hcell2 := hbx.cell 2
        have hcell3 := hbx.cell 3
        simp only [OpGoal]
        go_simp
        exact ⟨_, rfl, Ext.refl _, rfl⟩
       case o2 =>
        intro f w8 hG hp hl
        have hE : Ext w5 w8 := hG
        have hS := hE.size
        simp only [OpGoal]
        go_simp
        exact ⟨_, rfl, Ext.refl _, rfl⟩
       case o3 =>
        intro f w8 hG hp hl
        have hE : Ext w5 w8 := hG
        have hS := hE.size
        simp only [OpGoal]
        go_simp
        exact ⟨_, rfl, Ext.refl _, rfl⟩
       case o4 =>
        intro f w8 hG hp hl
        have hE : Ext w5 w8 := hG
        have hS := hE.size
        have q31 : f 3 = .pointer (some ⟨wr.heap.size, 0, none⟩) := tellV hp 0 3 rfl rfl (fun h => by cases h)
        have hcell := (b5.ext hE).cell 0
        simp only [OpGoal]
        go_simp
        exact ⟨_, rfl, Ext.refl _, rfl⟩
       case o5 =>
        intro f w8 hG hp hl
        have hE : Ext w5 w8 := hG
        have hS := hE.size
        have q30 : f 2 = .slice (some ⟨gb, offb, none⟩) nb capb := tellV hp 0 2 rfl rfl (fun h => by cases h)
        have q32 : f 4 = .int .i64 (cn : Int) := tellV hp 1 4 rfl rfl (fun h => by cases h)
        simp only [OpGoal]
        go_simp
        exact ⟨_, rfl, Ext.refl _, rfl⟩
       case o6 =>
        intro f w8 hG hp hl
        have hE : Ext w5 w8 := hG
        have hS := hE.size
        have q33 : f 5 = .pointer (some ⟨gb, offb + cn, none⟩) := tellV hp 0 5 rfl rfl (fun h => by cases h)
        have hcell := HCS.out _ (E5.trans hE)
        simp only [OpGoal]
        go_simp
        exact ⟨_, rfl, Ext.refl _, rfl⟩
       case o7 =>
        intro f w8 hG hp hl
        have hE : Ext w5 w8 := hG
        have hS := hE.size
        have l7 : f 9 = sv := hl.1 rfl
        simp only [OpGoal]
        go_simp
        exact ⟨_, rfl, Ext.refl _, rfl⟩
       case o8 =>
        intro f w8 hG hp hl
        have hE : Ext w5 w8 := hG
        have hS := hE.size
        have q29 : f 1 = .agg #[.bool b', .slice a1' n1' c1', .slice a2' n2' c2'] := tellV hp 0 1 rfl rfl (fun h => by cases h)
        have q34 : f 6 = .slice sa sn sc := tellV hp 1 6 rfl rfl (fun h => by cases h)
        have q35 : f 7 = sv := tellV hp 2 7 rfl rfl (fun h => by cases h)
        change OpGoal _ _ _ f w8 Ext _
        refine og_call (P := Tryz.prog) _ _ _ #[f 1, f 6, f 7] Tryz.func49 (by kernel_rfl) (by kernel_rfl) rfl rfl (by kernel_rfl) ?_
        rw [q29, q34, q35]
        refine (vaxpy_calls KA kb C (C + KA + kb) _ _ _ xq s (mkV (catP ((mkV r).take j) b)) _ ((HX.out.2.ext (hE6j.trans e5)).ext hE) (HSTL.out.ext (E5.trans hE)) ((HSV.out.ext (e5.trans hE)).tl (by rw [LIM_eq]; omega)) (by omega) (by omega) HAX.out.2 HAX.out.1).mono ?_
        rintro e w' ⟨v', rfl, h1, h2⟩
        rw [mk_more, ← HCAT.out] at h1
        exact ⟨v', rfl, h2, (h1.to HSZ.out).mono hS⟩
       case o9 =>
        intro f w8 hG hp hl
        have hE : Ext w5 w8 := hG
        have hS := hE.size
        have q36 := tellV hp 0 8 rfl rfl (fun _ => hE)
        exact ⟨_, rfl, Ext.refl _, q36⟩
      ·intro f w8 hG hp
       have hE : Ext w5 w8 := ChgS.nil hG
       have q7 := endV hp 9 (by decide) rfl (fun _ => hE)
       clear hp
       have HQ := Lib.hid (show TO w5.heap.size C w8 _ (mkV (catP ((mkV r).take (j + 1)) b)) from q7)
       have hw58 := E5.size
       clear q7
       go_wp2
       go_roundw
       case rel => exact ⟨j + 1, _, by omega, congrArg (Value.int .i64) (by omega), rfl, Lib.hid (HQ.out.mono hw58), (hE6j.trans e5).trans hE⟩
       case measure => simp [intOf]; omega
     ·have hcat : catP ((mkV r).take (j + 1)) b = catP ((mkV r).take j) b := by
       rw [HX.out.1, catP_snoc, if_neg (by rw [← HNB.out]; exact hcc), List.append_nil]
      have HCAT := Lib.hid hcat
      clear hcat
      go_wp2
      go_roundw
      case rel =>
       rw [← hw5]
       exact ⟨j + 1, _, by omega, congrArg (Value.int .i64) (by omega), rfl, Lib.hid (by rw [HCAT.out]; exact HSV.out.ext e5), hE6j.trans e5⟩
      case measure => simp [intOf]; omega
end Go.Proofs.YtdmjgjcljbogiaaGreat
/-
 The documents' matrices: the greatest place (Most), the columns (Transpose).
-/
namespace Go.Proofs.YtdmjgjcljbogiaaGreat
set_option maxRecDepth 100000
set_option maxHeartbeats 1000000
open Go.RowKit
set_option linter.unusedVariables false
set_option linter.unusedSimpArgs false
def MostL (L : List (Int × Rat)) (m : Int) : Prop := (∀ x ∈ L, x.1 ≤ m) ∧ (m = -1 ∨ ∃ x ∈ L, x.1 = m)
def allV (rows : List (List (Int × Rat))) : List (Int × Rat) := rows.flatMap mkV
theorem allV_snoc (rows : List (List (Int × Rat))) (r : List (Int × Rat)) : allV (rows ++ [r]) = allV rows ++ mkV r := by unfold allV; rw [List.flatMap_append]; simp
theorem most_nil : MostL [] (-1) := ⟨fun x hx => (by cases hx), .inl rfl⟩
theorem most_gt {L : List (Int × Rat)} {m : Int} (h : MostL L m) {x : Int × Rat} (hx : m < x.1) : MostL (L ++ [x]) x.1 := by
 refine ⟨fun y hy => ?_, .inr ⟨x, by simp, rfl⟩⟩
 rcases List.mem_append.1 hy with hy | hy
 ·have := h.1 y hy; omega
 ·rw [List.mem_singleton] at hy; rw [hy]; exact Int.le_refl _
theorem most_le {L : List (Int × Rat)} {m : Int} (h : MostL L m) {x : Int × Rat} (hx : x.1 ≤ m) : MostL (L ++ [x]) m := by
 refine ⟨fun y hy => ?_, h.2.imp_right fun ⟨y, hy, e⟩ => ⟨y, List.mem_append_left _ hy, e⟩⟩
 rcases List.mem_append.1 hy with hy | hy
 ·exact h.1 y hy
 ·rw [List.mem_singleton] at hy; rw [hy]; exact hx
theorem most_lt {rows : List (List (Int × Rat))} {m n : Int} (h : MostL (allV rows) m) (hn : 0 ≤ n) : m < n ↔ ∀ r ∈ rows, ∀ x ∈ mkV r, x.1 < n := by
 constructor
 ·intro hm r hr x hx
  have := h.1 x (List.mem_flatMap.2 ⟨r, hr, hx⟩)
  omega
 ·intro ha
  rcases h.2 with h1 | ⟨x, hx, e⟩
  ·omega
  ·obtain ⟨r, hr, hx⟩ := List.mem_flatMap.1 hx
   have := ha r hr x hx
   omega
set_option maxHeartbeats 8000000 in
theorem most_calls (k : Nat) (v : Value) (rows : List (List (Int × Rat))) (w : World) (hv : ML k w v rows) (hN : ∀ r ∈ rows, r.length ≤ 1000) (hk : k ≤ 1000000) :
  Calls Tryz.prog 32 #[v] w fun e w' => ∃ m, e = .returned (.int .i64 m) ∧ MostL (allV rows) m ∧ Ext w w' := by
 obtain ⟨ad, n, cap, hnl, rfl, hn1, hat⟩ := hv.at
 have HN := Lib.hid hnl
 have HAT := Lib.hid hat
 have HL := Lib.hid hN
 clear hnl hat hv hN
 go_enter Tryz.func32, Tryz.ntmps32
 go_wp2_with fail
 go_loopw [3, 4] (fun s3 s4 wr => ∃ (i : Nat) (m : Int), i ≤ n ∧ s4 = .int .i64 (i : Int) ∧ s3 = .int .i64 m ∧ Hid (MostL (allV (rows.take i)) m) ∧ Ext w wr) (fun _ s4 _ => ((n : Int) - intOf s4).toNat)
 case atStart => exact ⟨0, -1, Nat.zero_le _, rfl, rfl, Lib.hid most_nil, Ext.refl _⟩
 case round =>
  obtain ⟨i, m, hi, rfl, rfl, HS, hE0⟩ := hrel
  rcases Nat.eq_or_lt_of_le hi with hin | hin
  ·subst hin
   have hlt : ¬ ((i : Int) < (i : Int)) := by omega
   have hT := HS.out
   rw [show rows.take i = rows by rw [HN.out, List.take_length]] at hT
   have HT := Lib.hid hT
   clear hT
   go_wp2
   go_ret
   exact ⟨_, rfl, HT.out, hE0⟩
  ·have hlt : (i : Int) < (n : Int) := by omega
   obtain ⟨r, hr⟩ : ∃ x, rows[i]? = some x := ⟨_, List.getElem?_eq_getElem (by rw [← HN.out]; exact hin)⟩
   obtain ⟨g, off, rfl, a1, n1, c1, hcell, hTL⟩ := HAT.out i _ hr
   have hc0 := hcell wr hE0
   have HTK := Lib.hid (take_next hr)
   have hrN := HL.out r (List.mem_of_getElem? hr)
   have HTL := Lib.hid hTL
   clear hcell hr hTL
   go_wp2_with fail
   refine (make5_calls k _ r wr (HTL.out.ext hE0) hk hrN).mono ?_
   rintro e w6 ⟨v6, rfl, hto, e6⟩
   obtain ⟨ad6, cap6, rfl, hl6, hat6⟩ := hto.at
   have HAT6 := Lib.hid hat6
   obtain ⟨L, hL⟩ : ∃ L, L = (mkV r).length := ⟨_, rfl⟩
   rw [← hL] at hl6 ⊢
   have HLL := Lib.hid hL
   have hE6 := hE0.trans e6
   have HS6 := Lib.hid (show MostL (allV (rows.take i) ++ (mkV r).take 0) m by rw [List.take_zero, List.append_nil]; exact HS.out)
   clear hc0 hto hat6 hL HS
   go_wp2_with fail
   obtain ⟨wo, hwo⟩ : ∃ wo : World, wo = wr := ⟨_, rfl⟩
   rw [← hwo] at hE0 e6
   clear hwo
   go_loopw [3, 6] (fun s3 s6 wr => ∃ (j : Nat) (m : Int), j ≤ L ∧ s6 = .int .i64 (j : Int) ∧ s3 = .int .i64 m ∧ Hid (MostL (allV (rows.take i) ++ (mkV r).take j) m) ∧ Ext w6 wr) (fun _ s6 _ => ((L : Int) - intOf s6).toNat)
   case atStart => exact ⟨0, m, Nat.zero_le _, rfl, rfl, HS6, Ext.refl _⟩
   case round =>
    obtain ⟨j, m, hj, rfl, rfl, HS, hE6j⟩ := hrel
    clear HS6
    rcases Nat.eq_or_lt_of_le hj with hjn | hjn
    ·subst hjn
     have hlt2 : ¬ ((j : Int) < (j : Int)) := by omega
     have hN1 : Hid (MostL (allV (rows.take (i + 1))) m) := Lib.hid (by
      have := HS.out
      rw [show (mkV r).take j = mkV r by rw [HLL.out, List.take_length]] at this
      rw [HTK.out, allV_snoc]
      exact this)
     go_wp2
     go_roundw
     case rel => exact ⟨i + 1, m, by omega, congrArg (Value.int .i64) (by omega), rfl, hN1, hE6.trans hE6j⟩
     case measure => simp [intOf]; omega
    ·have hlt2 : (j : Int) < (L : Int) := by omega
     obtain ⟨x, hx⟩ : ∃ x, (mkV r)[j]? = some x := ⟨_, List.getElem?_eq_getElem (by rw [← HLL.out]; exact hjn)⟩
     obtain ⟨g6, rfl, b', a1', n1', c1', a2', n2', c2', hcell, -, -⟩ := HAT6.out j x hx
     obtain ⟨xc, xq⟩ := x
     simp only at hcell
     obtain ⟨hc0, -⟩ := hcell wr hE6j
     have HX := Lib.hid (take_next hx)
     clear hx hcell
     by_cases hm : m < xc
     ·have hN1 : Hid (MostL (allV (rows.take i) ++ (mkV r).take (j + 1)) xc) := Lib.hid (by rw [HX.out, ← List.append_assoc]; exact most_gt HS.out (x := (xc, xq)) hm)
      go_wp2
      go_roundw
      case rel => exact ⟨j + 1, xc, by omega, congrArg (Value.int .i64) (by omega), rfl, hN1, hE6j⟩
      case measure => simp [intOf]; omega
     ·have hN1 : Hid (MostL (allV (rows.take i) ++ (mkV r).take (j + 1)) m) := Lib.hid (by rw [HX.out, ← List.append_assoc]; exact most_le HS.out (x := (xc, xq)) (by show xc ≤ m; omega))
      go_wp2
      go_roundw
      case rel => exact ⟨j + 1, m, by omega, congrArg (Value.int .i64) (by omega), rfl, hN1, hE6j⟩
      case measure => simp [intOf]; omega
theorem TO.snoc {B K : Nat} {w w' : World} {hv v' : Value} {ps : Ps} {m : List (Int × Rat)} {c : Int} {q : Rat} {b : Bool} {a1 a2 : Option Addr} {n1 c1 n2 c2 : Nat} (hps : lP ps = m) (hls : LS 66 4 B w hv ((tsP ps).map tmv)) (hfr : ∀ p ∈ ps, FrQ B w (ratv p.1) p.2 ∧ szQ p.2 ≤ K) (hq : FrQ B w (.agg #[.bool b, .slice a1 n1 c1, .slice a2 n2 c2]) q) (hK : szQ q ≤ K) (hg : w.grownBy w' hv.ownBlock)
  (h' : LS 66 4 B w' v' ((tsP ps).map tmv ++ [.agg #[.int .i64 c, .bool b, .slice a1 n1 c1, .slice a2 n2 c2]])) : TO B K w' v' (m ++ [(c, q)]) := by
 have hk : Keep 107 w w' := by
  rcases hls.2.2 with ⟨h1, h2⟩ | ⟨g, cap, cur, h1, h2, h3, h4⟩
  ·rw [h1] at hg
   exact Ext.keep hg
  ·rw [h1] at hg
   refine keep_of (bs := [g]) (Chg.chgS (g := g) hg (by simp)) fun g' hg' => ?_
   rw [List.mem_singleton] at hg'
   subst hg'
   exact ⟨_, cur, h3, by decide⟩
 have e : m ++ [(c, q)] = lP (ps ++ [((⟨c, b, a1, n1, c1, a2, n2, c2⟩ : TmC), q)]) := by rw [lP_snoc, hps]
 rw [e]
 refine TO.of_ps (by rw [tsP_snoc, List.map_append]; exact h') fun p hp => ?_
 rcases List.mem_append.1 hp with hp | hp
 ·exact ⟨(hfr p hp).1.keep hk, (hfr p hp).2⟩
 ·rw [List.mem_singleton] at hp
  subst hp
  exact ⟨hq.keep hk, hK⟩
end Go.Proofs.YtdmjgjcljbogiaaGreat
/-
 Matrices, lists of terms written over: just which blocks may be harmed.
-/
namespace Go.Proofs.YtdmjgjcljbogiaaGreat
set_option maxRecDepth 100000
set_option maxHeartbeats 1000000
open Go.RowKit
set_option linter.unusedVariables false
set_option linter.unusedSimpArgs false
def HurtW (Q : Nat → Prop) (w w' : World) : Prop := w'.os = w.os ∧ w'.tape = w.tape ∧ w'.output = w.output ∧ w.heap.size ≤ w'.heap.size ∧
 ∀ k, k < w.heap.size → w'.heap[k]? = w.heap[k]? ∨ (Q k ∧ ∃ cur cur' t, (t = 107 ∨ (t = 66 ∧ ∀ x, x % 4 ≠ 0 → cur'[x]? = cur[x]?)) ∧ w.heap[k]? = some (.cells cur t (0, 0)) ∧ w'.heap[k]? = some (.cells cur' t (0, 0)) ∧ cur'.size = cur.size)
theorem HurtP.w {Q : Nat → Prop} {w w' : World} (h : HurtP Q w w') : HurtW Q w w' := by
 obtain ⟨h1, h2, h3, h4, h5⟩ := h
 refine ⟨h1, h2, h3, h4, fun k hk => ?_⟩
 rcases h5 k hk with e | ⟨hb, cur, cur', c1, c2, c3⟩
 ·exact .inl e
 ·exact .inr ⟨hb, cur, cur', _, .inl rfl, c1, c2, c3⟩
theorem HurtW.refl (Q : Nat → Prop) (w : World) : HurtW Q w w := ⟨rfl, rfl, rfl, Nat.le_refl _, fun k hk => .inl rfl⟩
theorem Ext.hurtsW {w w' : World} (Q : Nat → Prop) (h : Ext w w') : HurtW Q w w' := ⟨World.grownBy.os h, World.grownBy.tape h, World.grownBy.output h, h.size, fun k hk => .inl (h.heap hk)⟩
theorem HurtW.trans {Q : Nat → Prop} {a b c : World} (h : HurtW Q a b) (k : HurtW Q b c) : HurtW Q a c := by
 obtain ⟨h1, h2, h3, h4, h5⟩ := h
 obtain ⟨k1, k2, k3, k4, k5⟩ := k
 refine ⟨k1.trans h1, k2.trans h2, k3.trans h3, Nat.le_trans h4 k4, fun g hg => ?_⟩
 rcases h5 g hg with e1 | ⟨hb, cur, cur', t, ht, c1, c2, c3⟩ <;> rcases k5 g (by omega) with e2 | ⟨hb2, dur, dur', u, hu, d1, d2, d3⟩
 ·exact .inl (e2.trans e1)
 ·exact .inr ⟨hb2, dur, dur', u, hu, e1 ▸ d1, d2, d3⟩
 ·exact .inr ⟨hb, cur, cur', t, ht, c1, e2.trans c2, c3⟩
 ·rw [c2] at d1
  cases d1
  refine .inr ⟨hb, cur, dur', t, ?_, c1, d2, by omega⟩
  rcases ht with ht | ⟨ht, hx⟩
  ·exact .inl ht
  ·rcases hu with hu | ⟨hu, hy⟩
   ·exact .inl hu
   ·exact .inr ⟨ht, fun x hn => (hy x hn).trans (hx x hn)⟩
theorem HurtW.size {Q : Nat → Prop} {w w' : World} (h : HurtW Q w w') : w.heap.size ≤ w'.heap.size := h.2.2.2.1
theorem Ext.hurtW {Q : Nat → Prop} {a w w' : World} (h : Ext a w) (k : HurtW Q w w') (hB : ∀ k, Q k → a.heap.size ≤ k) : Ext a w' := by
 obtain ⟨k1, k2, k3, k4, k5⟩ := k
 refine ⟨k1.trans (World.grownBy.os h), k2.trans (World.grownBy.tape h), k3.trans (World.grownBy.output h), Nat.le_trans h.size k4, fun g hg _ => ?_⟩
 have := h.size
 rcases k5 g (by omega) with e1 | ⟨hb, -⟩
 ·exact e1.trans (h.heap hg)
 ·have := hB g hb; omega
theorem Bx.hurtW {Q : Nat → Prop} {t : TypeId} {w w' : World} {g : Nat} {cs : Array Value} (h : Bx t w g cs) (he : HurtW Q w w') (ht : t ≠ 107) (ht2 : t ≠ 66) : Bx t w' g cs := by
 rcases he.2.2.2.2 g (blk_lt h) with e1 | ⟨-, cur, cur', u, hu, c1, -⟩
 ·exact e1.trans h
 ·unfold Bx at h
  rw [h] at c1
  cases c1
  exact absurd (hu.imp_right And.left) (not_or.2 ⟨ht, ht2⟩)
theorem Bx.hurtTW {Q : Nat → Prop} {w w' : World} {g : Nat} {cs : Array Value} (h : Bx 66 w g cs) (he : HurtW Q w w') : ∃ cs', Bx 66 w' g cs' ∧ cs'.size = cs.size ∧ ∀ x, x % 4 ≠ 0 → cs'[x]? = cs[x]? := by
 rcases he.2.2.2.2 g (blk_lt h) with e1 | ⟨-, cur, cur', u, hu, c1, c2, c3⟩
 ·exact ⟨cs, e1.trans h, rfl, fun x _ => rfl⟩
 ·unfold Bx at h
  rw [h] at c1
  cases c1
  rcases hu with hu | ⟨-, hu⟩
  ·exact absurd hu (by decide)
  ·exact ⟨cur', c2, c3, hu⟩
theorem ShpP.hurtW {Q Q1 : Nat → Prop} {w w' : World} {s : Value} (h : ShpP Q w s) (he : HurtW Q1 w w') : ShpP Q w' s := by
 obtain ⟨ad, l, cap, h1, h2, h3⟩ := h
 refine ⟨ad, l, cap, h1, h2, ?_⟩
 rcases h3 with h3 | ⟨g, cur, h3, h4, h5, h6⟩
 ·exact .inl h3
 ·rcases he.2.2.2.2 g (blk_lt h5) with e1 | ⟨-, cu, cu', u, hu, c1, c2, c3⟩
  ·exact .inr ⟨g, cur, h3, h4, e1.trans h5, h6⟩
  ·rw [h5] at c1
   cases c1
   exact .inr ⟨g, cu', h3, h4, c2, by omega⟩
theorem ShpR.hurtW {Q Q1 : Nat → Prop} {w w' : World} {v : Value} (h : ShpR Q w v) (he : HurtW Q1 w w') : ShpR Q w' v := by
 obtain ⟨b, s, t, h1, h2, h3⟩ := h
 exact ⟨b, s, t, h1, h2.hurtW he, h3.hurtW he⟩
theorem HurtW.setCell {Q : Nat → Prop} {g i : Nat} {w : World} {cur : Array Value} (h : Bx 66 w g cur) (hB : Q g) (hi : i % 4 = 0) (u : Value) : HurtW Q w (w.setCell ⟨g, i, none⟩ u) := by
 have hc := Chg.setCell w g i u
 refine ⟨World.grownBy.os hc, World.grownBy.tape hc, World.grownBy.output hc, hc.size, fun k hk => ?_⟩
 by_cases hkg : k = g
 ·subst hkg
  refine .inr ⟨hB, cur, _, _, .inr ⟨rfl, fun x hx => ?_⟩, h, heap_setCell_same w k i _ _ _ h, by simp⟩
  rw [Array.getElem?_setIfInBounds, if_neg (by omega)]
 ·exact .inl (hc.heap hk hkg)
def SpBW (Q : Nat → Prop) (n : Nat) (w : World) (g : Nat) : Prop := Q g ∧ ∃ cs, Bx 66 w g cs ∧ n * 4 ≤ cs.size ∧ ∀ i, i < n → ∃ b a1 n1 c1 a2 n2 c2, cs[i * 4 + 1]? = some (.bool b) ∧ cs[i * 4 + 2]? = some (.slice a1 n1 c1) ∧ cs[i * 4 + 3]? = some (.slice a2 n2 c2) ∧ ShpR Q w (.agg #[.bool b, .slice a1 n1 c1, .slice a2 n2 c2])
def SpW (Q : Nat → Prop) (w : World) (v : Value) : Prop := ∃ ad n cap, v = .slice ad n cap ∧ n ≤ 9223372036854775807 ∧ (n = 0 ∨ ∃ g, ad = some ⟨g, 0, none⟩ ∧ SpBW Q n w g)
theorem SpBW.hurtW {Q Q1 : Nat → Prop} {n g : Nat} {w w' : World} (h : SpBW Q n w g) (he : HurtW Q1 w w') : SpBW Q n w' g := by
 obtain ⟨h1, cs, h2, h3, h4⟩ := h
 obtain ⟨cs', k1, k2, k3⟩ := h2.hurtTW he
 refine ⟨h1, cs', k1, by omega, fun i hi => ?_⟩
 obtain ⟨b, a1, n1, c1, a2, n2, c2, j1, j2, j3, j4⟩ := h4 i hi
 exact ⟨b, a1, n1, c1, a2, n2, c2, by rw [k3 _ (by omega)]; exact j1, by rw [k3 _ (by omega)]; exact j2, by rw [k3 _ (by omega)]; exact j3, j4.hurtW he⟩
theorem SpW.hurtW {Q Q1 : Nat → Prop} {w w' : World} {v : Value} (h : SpW Q w v) (he : HurtW Q1 w w') : SpW Q w' v := by
 obtain ⟨ad, n, cap, h1, h2, h3⟩ := h
 exact ⟨ad, n, cap, h1, h2, h3.imp_right fun ⟨g, a, b⟩ => ⟨g, a, b.hurtW he⟩⟩
theorem SpW.ext {Q : Nat → Prop} {w w' : World} {v : Value} (h : SpW Q w v) (he : Ext w w') : SpW Q w' v := h.hurtW (he.hurtsW fun _ => True)
def SpMW (Q : Nat → Prop) (w : World) (v : Value) : Prop := ∃ ad n cap, v = .slice ad n cap ∧ n ≤ 9223372036854775807 ∧ (n = 0 ∨ ∃ g, ad = some ⟨g, 0, none⟩ ∧ ∃ cs, Bx 40 w g cs ∧ n ≤ cs.size ∧ ∀ i, i < n → ∃ a1 n1 c1, cs[i]? = some (.slice a1 n1 c1) ∧ SpW Q w (.slice a1 n1 c1))
theorem SpMW.hurtW {Q Q1 : Nat → Prop} {w w' : World} {v : Value} (h : SpMW Q w v) (he : HurtW Q1 w w') : SpMW Q w' v := by
 obtain ⟨ad, n, cap, h1, h2, h3⟩ := h
 refine ⟨ad, n, cap, h1, h2, h3.imp_right fun ⟨g, a, cs, b, c, d⟩ => ⟨g, a, cs, b.hurtW he (by decide) (by decide), c, fun i hi => ?_⟩⟩
 obtain ⟨a1, n1, c1, k1, k2⟩ := d i hi
 exact ⟨a1, n1, c1, k1, k2.hurtW he⟩
theorem SpMW.ext {Q : Nat → Prop} {w w' : World} {v : Value} (h : SpMW Q w v) (he : Ext w w') : SpMW Q w' v := h.hurtW (he.hurtsW fun _ => True)
/-! What lies from block B on stays where those blocks stay. -/
def Above (B : Nat) (w w' : World) : Prop := ∀ g, B ≤ g → g < w.heap.size → w'.heap[g]? = w.heap[g]?
theorem HurtW.above {Q : Nat → Prop} {B : Nat} {w w' : World} (h : HurtW Q w w') (hQ : ∀ k, Q k → k < B) : Above B w w' := fun g hg hl => by
 rcases h.2.2.2.2 g hl with e | ⟨hb, -⟩
 ·exact e
 ·have := hQ g hb
  omega
theorem Bx.above {B g : Nat} {t : TypeId} {w w' : World} {cs : Array Value} (h : Bx t w g cs) (ha : Above B w w') (hg : B ≤ g) : Bx t w' g cs := (ha g hg h.lt).trans h
theorem FrL.above {e : TypeId} {k : IntKind} {B : Nat} {w w' : World} {s : Value} {xs : List Nat} (h : FrL e k B w s xs) (ha : Above B w w') : FrL e k B w' s xs := by
 obtain ⟨ad, cap, h1, h2, h3, h4⟩ := h
 refine ⟨ad, cap, h1, h2, h3, ?_⟩
 rcases h4 with h4 | ⟨g, cur, h4, h5, h6, h7⟩
 ·exact .inl h4
 ·exact .inr ⟨g, cur, h4, h5, Bx.above h6 ha h5, h7⟩
theorem FrQ.above {B : Nat} {w w' : World} {v : Value} {q : Rat} (h : FrQ B w v q) (ha : Above B w w') : FrQ B w' v q := by
 obtain ⟨s, t, h1, h2, h3⟩ := h
 exact ⟨s, t, h1, FrL.above h2 ha, FrL.above h3 ha⟩
theorem ownsRow_above {B e size n : Nat} {w w' : World} {v : Value} {xs : List Value} (h : w.ownsRow B e size v n xs) (ha : Above B w w') : w'.ownsRow B e size v n xs := by
 refine ⟨h.1, ?_⟩
 rcases h.2 with h2 | ⟨g, cap, cur, h1, h2, h3, h4⟩
 ·exact .inl h2
 ·exact .inr ⟨g, cap, cur, h1, h2, Bx.above h3 ha h2, h4⟩
theorem TO.above {B k : Nat} {w w' : World} {v : Value} {m : List (Int × Rat)} (h : TO B k w v m) (ha : Above B w w') : TO B k w' v m := by
 obtain ⟨ts, h1, h2, h3⟩ := h
 exact ⟨ts, h1, ⟨h2.1, ownsRow_above h2.2 ha⟩, fun i t x a b => ⟨(h3 i t x a b).1, (h3 i t x a b).2.1.above ha, (h3 i t x a b).2.2⟩⟩
theorem MO.above {B k : Nat} {w w' : World} {v : Value} {rows : List (List (Int × Rat))} (h : MO B k w v rows) (ha : Above B w w') : MO B k w' v rows := by
 obtain ⟨vs, h1, h2, h3⟩ := h
 exact ⟨vs, ownsRow_above h1 ha, h2, fun i u y a b => (h3 i u y a b).above ha⟩
end Go.Proofs.YtdmjgjcljbogiaaGreat
/-
 Matrices: plain: turned back, the columns are the rows.
-/
namespace Go.Proofs.YtdmjgjcljbogiaaGreat
set_option maxRecDepth 100000
set_option maxHeartbeats 1000000
open Go.RowKit
set_option linter.unusedVariables false
set_option linter.unusedSimpArgs false
/-! Plain: turned back, the columns are the rows. -/
theorem unitM_get {n j : Nat} (h : j < n) : (unitM n).getD j [] = [((j : Int), ((1 : Int) : Rat))] := by
 unfold unitM
 rw [List.getD_eq_getElem?_getD, List.getElem?_map, List.getElem?_range h]
 rfl
theorem pr_unit (r : List (Int × Rat)) (n : Nat) (d : Int) : getV (prV r (unitM n)) d = if 0 ≤ d ∧ d < (n : Int) then getV r d else 0 := by
 rw [prV_sum, unitM_len]
 have hone : ((1 : Int) : Rat) = 1 := by decide +kernel
 rw [sumN_congr (g := fun j => if d = (j : Int) ∧ 0 ≤ d then getV r (j : Int) else 0) (fun j hj => by
  rw [unitM_get hj, getV_one]
  by_cases h : (j : Int) = d ∧ 0 ≤ d
  ·rw [if_pos h, if_pos ⟨h.1.symm, h.2⟩, hone, Rat.mul_one]
  ·rw [if_neg h, if_neg (fun h2 => h ⟨h2.1.symm, h2.2⟩), Rat.mul_zero])]
 by_cases h0 : 0 ≤ d
 ·rw [sumN_one _ d.toNat (fun i hi => if_neg (fun h => hi (by omega)))]
  by_cases h1 : d < (n : Int)
  ·rw [if_pos (show d.toNat < n by omega), if_pos (show d = ((d.toNat : Nat) : Int) ∧ 0 ≤ d from ⟨(Int.toNat_of_nonneg h0).symm, h0⟩), if_pos ⟨h0, h1⟩, Int.toNat_of_nonneg h0]
  ·rw [if_neg (show ¬ d.toNat < n by omega), if_neg (fun h => h1 h.2)]
 ·rw [if_neg (fun h => h0 h.1), sumN_congr (g := fun _ => 0) (fun j _ => if_neg (fun h => h0 h.2)), sumN_zero]
end Go.Proofs.YtdmjgjcljbogiaaGreat
/-
 The law MatSides.
-/
namespace Go.Proofs.YtdmjgjcljbogiaaGreat
set_option maxRecDepth 100000
set_option maxHeartbeats 1000000
open Go.RowKit
set_option linter.unusedVariables false
set_option linter.unusedSimpArgs false
theorem QL.take {k l cap : Nat} {w : World} {ad : Option Addr} {xs : List Rat} (h : QL k w (.slice ad l cap) xs) {m : Nat} (hm : m ≤ xs.length) : QL k w (.slice ad m cap) (xs.take m) := by
 obtain ⟨ad', cap', h1, h2, h3, h4⟩ := h
 cases h1
 have hl : (xs.take m).length = m := by rw [List.length_take]; omega
 refine ⟨ad, cap, by rw [hl], by omega, h3, ?_⟩
 rcases h4 with h4 | ⟨g, off, h4, h5⟩
 ·exact .inl (by rw [h4]; simp)
 ·refine .inr ⟨g, off, h4, fun i x hx => h5 i x ?_⟩
  rw [List.getElem?_take] at hx
  split at hx
  ·exact hx
  ·cases hx
theorem sz_sumN {k : Nat} {f : Nat → Rat} : ∀ n, (∀ j, j < n → szQ (f j) ≤ k) → szQ (sumN f n) ≤ n * (k + 1) + 1
 | 0, _ => by rw [Nat.zero_mul]; exact szQ_zero
 | n + 1, h => by
  have h1 := sz_sumN n fun j hj => h j (by omega)
  have h2 := szQ_add h1 (h n (by omega))
  rw [Nat.succ_mul]
  show szQ (sumN f n + f n) ≤ _
  omega
theorem OL.imp {α : Type} {t : TypeId} {n B : Nat} {R R' : World → Value → α → Prop} {w : World} {v : Value} {ys : List α} (h : OL t n B R w v ys) (hR : ∀ u y, y ∈ ys → R w u y → R' w u y) : OL t n B R' w v ys := by
 obtain ⟨vs, h1, h2, h3⟩ := h
 exact ⟨vs, h1, h2, fun i u y a b => hR u y (List.mem_of_getElem? b) (h3 i u y a b)⟩
theorem cmpR_self (x : Rat) : cmpR x x = 0 := by
 unfold cmpR
 rw [if_neg Rat.lt_irrefl, if_pos rfl]
theorem MO.chg {B k g : Nat} {w w' : World} {v : Value} {rows : List (List (Int × Rat))} (h : MO B k w v rows) (hc : Chg g w w') (hg : g < B) : MO B k w' v rows := h.above fun g' h1 h2 => hc.heap h2 (by omega)
def PP.mO {S : Nat} (k : Nat) (rows : List (List (Int × Rat))) : PP S := ⟨false, fun u w => MO S k w u rows, fun _ _ _ h hp => hp.ext h, fun _ _ hg _ _ _ h hp => hp.chg h hg⟩
theorem prV_len {r : List (Int × Rat)} {b : List (List (Int × Rat))} {N Nb : Nat} (hr : r.length ≤ N) (hb : ∀ s ∈ b, s.length ≤ Nb) : (prV r b).length ≤ N * Nb := by
 have h1 := mkV_len (catP (mkV r) b)
 have h2 := catP_len hb (mkV r)
 have h3 := mkV_len r
 have h4 : (mkV r).length * Nb ≤ N * Nb := Nat.mul_le_mul_right _ (by omega)
 unfold prV
 omega
def sideP (M : List (List (Int × Rat))) (n : Nat) : List (List (Int × Rat)) := (unitM n).map fun r => prV r M
def sideQ (M : List (List (Int × Rat))) (n : Nat) : List (List (Int × Rat)) := (sideP M n).map fun r => prV r (unitM 60)
theorem sideP_len {M : List (List (Int × Rat))} {n : Nat} (hM : ∀ r ∈ M, r.length ≤ 30) : ∀ r ∈ sideP M n, r.length ≤ 30 := by
 intro r hr
 unfold sideP at hr
 obtain ⟨s, hs, rfl⟩ := List.mem_map.1 hr
 have := prV_len (unitM_one n s hs) hM
 omega
theorem side_eq {M : List (List (Int × Rat))} {n : Nat} (h : ∀ r ∈ M, ∀ x ∈ mkV r, x.1 < 60) : sideP M n = sideQ M n := by
 unfold sideQ
 have : ∀ r ∈ sideP M n, prV r (unitM 60) = r := fun r hr => by
  unfold sideP at hr
  obtain ⟨s, hs, rfl⟩ := List.mem_map.1 hr
  refine nf_ext (prV_nf _ _) (prV_nf _ _) fun d => ?_
  rw [pr_unit]
  by_cases hd : 0 ≤ d ∧ d < ((60 : Nat) : Int)
  ·rw [if_pos hd]
  ·rw [if_neg hd, prV_sum]
   have hz : ∀ j, getV (M.getD j []) d = 0 := fun j => by
    rw [← mkV_get]
    rcases Nat.lt_or_ge j M.length with hj | hj
    ·have e : M.getD j [] = M[j] := by rw [List.getD_eq_getElem?_getD, List.getElem?_eq_getElem hj]; rfl
     rw [e]
     refine getV_none fun x hx => ?_
     have h1 := h _ (List.getElem_mem hj) x hx
     have h2 := (mkV_nf M[j]).1.2 x hx
     omega
    ·rw [getD_none hj]
     exact (mkV_get [] d).trans (getV_nil d)
   rw [sumN_congr (g := fun _ => 0) (fun j _ => by rw [hz j, Rat.mul_zero]), sumN_zero]
 exact (List.map_id _).symm.trans (List.map_congr_left fun r hr => (this r hr).symm)
set_option maxHeartbeats 16000000 in
theorem matSides_calls (v u z : Value) (ms : List (List TE)) (xl yl : List RE) (w : World) (hv : MLE w v ms) (hb : ms.length ≤ 281474976710656) (hu : SLQ w u xl) (hz : SLQ w z yl) :
  Calls Tryz.prog 6 #[v, u, z] w fun e w' => e = .returned (.bool true) ∧ Ext w w' := by
 have HV := Lib.hid hv
 have HU := Lib.hid hu
 have HZ := Lib.hid hz
 obtain ⟨ad, n, cap, hnl, rfl, hn1, -⟩ := hv.at
 obtain ⟨ady, ny, capy, hny, rfl, hny1, -⟩ := hz.at
 have hcapy : ny ≤ capy := by
  obtain ⟨a, c, h1, h2, -⟩ := hz
  simp only [Value.slice.injEq] at h1
  omega
 have HN := Lib.hid hnl
 have HNY := Lib.hid hny
 have lim : (100000000 : Nat) ≤ LIM := by rw [LIM_eq]; omega
 clear hv hu hz hnl hny
 go_enter Tryz.func6, Tryz.ntmps6
 go_wp2_with fail
 refine (speaks6_calls _).mono ?_
 rintro e w2 ⟨rfl, e2⟩
 go_wp2_with fail
 refine (greatM_calls _ ms w2 (HV.out.ext e2) hb).mono ?_
 rintro e w3 ⟨rfl, e3⟩
 obtain ⟨p, hp⟩ : ∃ p, p = greatM ms := ⟨_, rfl⟩
 rw [← hp]
 have HP := Lib.hid hp
 clear hp
 have E3 := e2.trans e3
 cases p with
 | true =>
  go_wp2
  go_ret
  exact ⟨rfl, E3⟩
 | false =>
 go_wp2_with fail
 refine (greatAll_calls _ xl w3 (HU.out.ext E3)).mono ?_
 rintro e w4 ⟨rfl, e4⟩
 obtain ⟨q, hq⟩ : ∃ q, q = greatE xl := ⟨_, rfl⟩
 rw [← hq]
 have HQ := Lib.hid hq
 clear hq
 have E4 := E3.trans e4
 cases q with
 | true =>
  go_wp2
  go_ret
  exact ⟨rfl, E4⟩
 | false =>
 go_wp2_with fail
 refine (greatAll_calls _ yl w4 (HZ.out.ext E4)).mono ?_
 rintro e w5 ⟨rfl, e5⟩
 obtain ⟨s, hs⟩ : ∃ s, s = greatE yl := ⟨_, rfl⟩
 rw [← hs]
 have HR := Lib.hid hs
 clear hs
 have E5 := E4.trans e5
 cases s with
 | true =>
  go_wp2
  go_ret
  exact ⟨rfl, E5⟩
 | false =>
 obtain ⟨m1, m2⟩ := greatM_not HP.out.symm
 obtain ⟨x1, x2⟩ := greatE_not HQ.out.symm
 obtain ⟨y1, y2⟩ := greatE_not HR.out.symm
 obtain ⟨M, hM⟩ : ∃ M, M = ms.map ratT := ⟨_, rfl⟩
 obtain ⟨X, hX⟩ : ∃ X, X = xl.map ratE := ⟨_, rfl⟩
 obtain ⟨Y, hY⟩ : ∃ Y, Y = yl.map ratE := ⟨_, rfl⟩
 have hMl : M.length = n := by rw [hM, List.length_map, HN.out]
 have hn12 : n ≤ 12 := by rw [HN.out]; exact m1
 have hYl : Y.length = ny := by rw [hY, List.length_map, HNY.out]
 have HML := Lib.hid (show ∀ r ∈ M, r.length ≤ 30 by rw [hM]; exact ratT_len ms fun l hl => (m2 l hl).1)
 have toM : ∀ {w' : World} {v' : Value}, MLE w' v' ms → ML 6 w' v' M := fun h => by rw [hM]; exact h.ml 6 (by omega) (by omega) fun l hl e he => (m2 l hl).2 e he
 have toX : ∀ {w' : World} {v' : Value}, SLQ w' v' xl → QL 6 w' v' X := fun h => by rw [hX]; exact h.ql 6 (by omega) (by omega) x2
 have toY : ∀ {w' : World} {v' : Value}, SLQ w' v' yl → QL 6 w' v' Y := fun h => by rw [hY]; exact h.ql 6 (by omega) (by omega) y2
 have TM := Lib.hid (And.intro @toM (And.intro @toX @toY))
 have HMN := Lib.hid hMl
 have HYN := Lib.hid hYl
 clear m2 x2 y2 hM hX hY toM toX toY HP HQ HR e2 e3 e4 e5 E3 E4 m1 hMl hYl HN HNY
 go_wp2_with fail
 refine (times_calls 6 6 30 _ _ M X w5 (TM.out.1 (HV.out.ext E5)) (TM.out.2.1 (HU.out.ext E5)) HML.out (by rw [HMN.out]; omega) (by omega)).mono ?_
 rintro e w6 ⟨v6, rfl, r6, e6⟩
 have E6 := E5.trans e6
 have q6 := OL.ql r6 (show 30 * (6 + 6 + 1) + 1 ≤ LIM by omega)
 obtain ⟨adr, nr, capr, hnr, rfl, -, hatr⟩ := q6.at
 have hnrn : n = nr := by rw [hnr]; unfold timesM; rw [List.length_map, HMN.out]
 subst hnrn
 have HATR := Lib.hid hatr
 have HQR := Lib.hid q6.szs
 clear r6 e6 q6 hnr hatr E5
 by_cases hyn : n < ny
 ·have hyn' : (n : Int) < (ny : Int) := by omega
  obtain ⟨Z, hZ⟩ : ∃ Z, Z = Y.take n := ⟨_, rfl⟩
  have hkn : n ≤ n := Nat.le_refl n
  have HZL : Hid (Z.length = n) := Lib.hid (by rw [hZ, List.length_take, HYN.out]; omega)
  have HZQ : Hid (∀ w', Ext w w' → QL 6 w' (.slice ady n capy) Z) := Lib.hid fun w' he => by
   have := (TM.out.2.2 (HZ.out.ext he)).take (m := n) (by rw [HYN.out]; omega)
   rw [hZ]
   exact this
  have hcapn : (n : Int) ≤ (capy : Int) := by omega
  clear hZ
  obtain ⟨q, hq⟩ : ∃ q : Nat → Rat, q = fun i => sumN (fun j => Z.getD j 0 * (timesM M X).getD j 0) i := ⟨_, rfl⟩
  have hqs : ∀ (i : Nat) (y r : Rat), Z[i]? = some y → (timesM M X)[i]? = some r → q (i + 1) = q i + y * r := fun i y r hy hr => by
   rw [hq]
   show sumN _ i + Z.getD i 0 * (timesM M X).getD i 0 = _
   rw [List.getD_eq_getElem?_getD, hy, List.getD_eq_getElem?_getD, hr]
   rfl
  have hqn : dotV (mkV (catN Z M (min Z.length M.length))) X = q n := by
   rw [show min Z.length M.length = n by rw [HZL.out, HMN.out]; omega, dot_cat, hq]
   refine sumN_congr fun j hj => ?_
   congr 1
   rw [List.getD_eq_getElem?_getD, List.getD_eq_getElem?_getD]
   unfold timesM
   have hjm : j < M.length := by rw [HMN.out]; omega
   rw [List.getElem?_map, List.getElem?_eq_getElem hjm]
   rfl
  have hq0 : q 0 = 0 := by rw [hq]; rfl
  have HQS := Lib.hid hqs
  have HQN := Lib.hid hqn
  have HQ0 := Lib.hid hq0
  have hzs : szQ (q n) ≤ 4777 := by
   rw [hq]
   have h1 := sz_sumN (k := 397) (f := fun j => Z.getD j 0 * (timesM M X).getD j 0) n fun j hj => by
    have hy : szQ (Z.getD j 0) ≤ 6 := getD_all (p := fun q => szQ q ≤ 6) ((HZQ.out w (Ext.refl w)).szs) (by decide +kernel) j
    have hr : szQ ((timesM M X).getD j 0) ≤ 391 := getD_all (p := fun q => szQ q ≤ 391) HQR.out (by decide +kernel) j
    exact szQ_mul hy hr
   have h2 : n * (397 + 1) ≤ 12 * (397 + 1) := Nat.mul_le_mul_right _ (by omega)
   show szQ (sumN _ n) ≤ _
   omega
  have HZS := Lib.hid hzs
  clear hq hqs hqn hq0 hzs
  go_wp2_with fail
  refine (timesT_calls 6 6 30 12 _ _ Z M w6 (HZQ.out w6 E6) (TM.out.1 (HV.out.ext E6)) HML.out (by rw [HMN.out]; omega) (by omega) (by omega)).mono ?_
  rintro e w7 ⟨v7, rfl, r7, e7⟩
  obtain ⟨a7, k7, hv7⟩ := r7.val
  obtain ⟨w8, hw8, e8, bx8, s8⟩ := alloc1 w7 #[v7] 40
  have M8 : ML 4681 w8 (.slice (some ⟨w7.heap.size, 0, none⟩) 1 1) [mkV (catN Z M (min Z.length M.length))] := (mo_new (B := 0) (k := 4681) (N := 1) [v7] [mkV (catN Z M (min Z.length M.length))] bx8 rfl rfl (Nat.zero_le _) (by omega) (fun i u y hu hy => by
   match i, hu, hy with
   | 0, hu, hy => cases hu; cases hy; exact (r7.ext e8).mono (Nat.zero_le _)
   | i + 1, hu, hy => simp at hu)).ml (by omega)
  have hl8 : ∀ r ∈ [mkV (catN Z M (min Z.length M.length))], r.length ≤ 360 := fun r hr => by
   rw [List.mem_singleton] at hr
   subst hr
   have h1 := mkV_len (catN Z M (min Z.length M.length))
   have h2 : (catN Z M (min Z.length M.length)).length ≤ min Z.length M.length * 30 := catN_len HML.out _
   have h3 : min Z.length M.length ≤ 12 := by rw [HMN.out]; omega
   omega
  have E8 := (E6.trans e7).trans e8
  have HM8 := Lib.hid (And.intro M8 hl8)
  clear r7 bx8 s8 M8 hl8
  rw [hv7] at hw8 ⊢
  clear hv7
  go_wp2_with fail
  rw [← hw8]
  refine (times_calls 4681 6 360 _ _ _ X w8 HM8.out.1 (TM.out.2.1 (HU.out.ext E8)) HM8.out.2 (by simp) (by omega)).mono ?_
  rintro e w9 ⟨v9, rfl, r9, e9⟩
  have hT9 : timesM [mkV (catN Z M (min Z.length M.length))] X = [q n] := by rw [← HQN.out]; rfl
  rw [hT9] at r9
  have q9 := OL.ql (k := 4777) (OL.imp (R' := FrK w8.heap.size 4777) r9 fun u y hy hR => ⟨hR.1, by rw [List.mem_singleton] at hy; rw [hy]; exact HZS.out⟩) (by omega)
  obtain ⟨adl, nl, capl, hnl, rfl, -, hatl⟩ := q9.at
  have hnl1 : nl = 1 := hnl
  subst hnl1
  obtain ⟨gl, offl, rfl, lb, la1, ln1, lc1, la2, ln2, lc2, hlc, hlR⟩ := hatl 0 (q n) rfl
  have HLC := Lib.hid (And.intro hlc hlR)
  have E9 := E8.trans e9
  have e69 := (e7.trans e8).trans e9
  clear r9 q9 hT9 hnl hatl hlc hlR HM8 hw8 e7 e8 e9 E8
  go_wp2_with fail
  refine (rqsmall3_calls 0 _ (by omega) (by omega)).mono ?_
  rintro e w10 ⟨v10, rfl, q10, e10⟩
  obtain ⟨b10, a10, l10, k10, a10', l10', k10', rfl, q10⟩ := q10.opn
  have Q10 := Lib.hid q10
  obtain ⟨w11, hw11, e11, b11, s11⟩ := alloc1 w10 #[.bool b10, .slice a10 l10 k10, .slice a10' l10' k10'] 50
  have hs9 := e10.size
  have HJ0 : Hid (DtJ w9 w11 w10.heap.size (0 * 1986 + 1) (q 0)) := Lib.hid ⟨e10.trans e11, _, _, _, _, _, _, _, b11, by rw [HQ0.out]; exact (Q10.out.ext e11), by rw [HQ0.out]; have : szD 0 ≤ 1 := (by decide); rw [Nat.zero_mul]; exact this⟩
  clear q10 Q10
  go_wp2_with fail
  rw [← hw11]
  obtain ⟨g5, hg5⟩ : ∃ g5, g5 = w10.heap.size := ⟨_, rfl⟩
  rw [← hg5] at HJ0 hs9 ⊢
  clear hw11 hg5 e10 e11 b11 s11
  go_loopw [44] (fun s44 wr => ∃ i : Nat, i ≤ n ∧ s44 = .int .i64 (i : Int) ∧ Hid (DtJ w9 wr g5 (i * 1986 + 1) (q i))) (fun s44 _ => ((n : Int) - intOf s44).toNat)
  case atStart => exact ⟨0, Nat.zero_le _, rfl, HJ0⟩
  case round =>
   obtain ⟨i, hi, rfl, hH⟩ := hrel
   obtain ⟨hE0, rb, r1, m1, d1, r2, m2', d2, hbx, hq, hsz⟩ := hH.out
   have HQ := Lib.hid hq
   have HSZ := Lib.hid hsz
   have h5g : g5 < wr.heap.size := hbx.lt
   have E9r := E9.trans hE0
   clear hq hsz hH HJ0
   rcases Nat.eq_or_lt_of_le hi with hin | hin
   ·have hlt : ¬ ((i : Int) < (n : Int)) := by omega
    have HQF : Hid (FrQd w9.heap.size wr (.agg #[.bool rb, .slice r1 m1 d1, .slice r2 m2' d2]) (q n) ∧ szD (q n) ≤ 23833) := Lib.hid ⟨by rw [← hin]; exact HQ.out, by rw [← hin]; have := HSZ.out; have h3 : i * 1986 ≤ 12 * 1986 := Nat.mul_le_mul_right _ (by omega); omega⟩
    obtain ⟨s, hs⟩ : ∃ s, s = decide ((sideP M n).map fmV = (sideQ M n).map fmV) := ⟨_, rfl⟩
    have HSS := Lib.hid hs
    clear hs HQ HSZ
    go_wp2_with fail
    cases s with
    | true =>
     refine wp_region_puts [] [PP.val (.slice (some ⟨gl, offl, none⟩) 1 capl), PP.val (.int .i64 1), PP.val (.bool true), PP.val (.bool true), PP.val (.slice (some ⟨gl, offl, none⟩) 1 capl), PP.val (.pointer (some ⟨gl, offl, none⟩)), PP.val (.agg #[.bool lb, .slice la1 ln1 lc1, .slice la2 ln2 lc2]), PP.frQd (q n), PP.val (.agg #[.bool rb, .slice r1 m1 d1, .slice r2 m2' d2]), PP.val (.int .i64 0), PP.val (.bool true), PP.val (.bool true), PP.val (.bool true), PP.val (.slice ad n cap), PP.val (.int .i64 (n : Int)), PP.mO 1 (unitM n), PP.val (.slice ad n cap), PP.mO 271 (sideP M n), PP.val (.slice ad n cap), PP.val (.int .i64 (n : Int)), PP.mO 1 (unitM n), PP.val (.slice ad n cap), PP.mO 271 (sideP M n), PP.mO 1 (unitM 60), PP.mO 244861 (sideQ M n), PP.val (.bool true), PP.val (.bool true), PP.val (.bool true), PP.any, PP.any, PP.any, PP.val (.bool true), PP.val (.bool true)] [] [0, 1, 2, 3, 4, 5, 6, 7, 8, 9, 10, 11, 12, 13, 14, 15, 16, 17, 18, 19, 20, 21, 22, 23, 24, 25, 26, 27, 28, 29, 30, 31, 32]
      (by kernel_rfl) (by kernel_rfl) (fun f => (by simp only [fillR, fillL, List.setIfInBounds_toArray, List.set_cons_succ, List.set_cons_zero, Nat.reduceAdd]; rfl)) ?_ ?_ ?_ ?_ ?_
     ·intro x hx; cases hx
     ·intro x hx; cases hx
     ·intro x hx; cases hx
     ·refine ⟨?o0, ?o1, ?o2, ?o3, ?o4, ?o5, ?o6, ?o7, ?o8, ?o9, ?o10, ?o11, ?o12, ?o13, ?o14, ?o15, ?o16, ?o17, ?o18, ?o19, ?o20, ?o21, ?o22, ?o23, ?o24, ?o25, ?o26, ?o27, ?o28, ?o29, ?o30, ?o31, ?o32, trivial⟩
      case o0 =>
       intro f wq hG hp hl
       have hE : Ext wr wq := hG
       have hS := hE.size
       simp only [OpGoal]
       go_simp
       exact ⟨_, rfl, Ext.refl _, rfl⟩
      case o1 =>
       intro f wq hG hp hl
       have hE : Ext wr wq := hG
       have hS := hE.size
       have q61 : f 0 = .slice (some ⟨gl, offl, none⟩) 1 capl := tellV hp 0 0 rfl rfl (fun h => by cases h)
       simp only [OpGoal]
       go_simp
       exact ⟨_, rfl, Ext.refl _, rfl⟩
      case o2 =>
       intro f wq hG hp hl
       have hE : Ext wr wq := hG
       have hS := hE.size
       have q62 : f 1 = .int .i64 1 := tellV hp 0 1 rfl rfl (fun h => by cases h)
       simp only [OpGoal]
       go_simp
       exact ⟨_, rfl, Ext.refl _, rfl⟩
      case o3 =>
       intro f wq hG hp hl
       have hE : Ext wr wq := hG
       have hS := hE.size
       have q63 : f 2 = .bool true := tellV hp 0 2 rfl rfl (fun h => by cases h)
       simp only [OpGoal]
       go_simp
       exact ⟨_, rfl, Ext.refl _, rfl⟩
      case o4 =>
       intro f wq hG hp hl
       have hE : Ext wr wq := hG
       have hS := hE.size
       have qg : f 3 = .bool true := tellV hp 0 3 rfl rfl (fun h => by cases h)
       change OpGoal _ _ _ f wq Ext _
       refine og_guard (j := 3) (want := true) rfl qg ?_
       simp only [OpGoal]
       go_simp
       exact ⟨_, rfl, Ext.refl _, rfl⟩
      case o5 =>
       intro f wq hG hp hl
       have hE : Ext wr wq := hG
       have hS := hE.size
       have q65 : f 4 = .slice (some ⟨gl, offl, none⟩) 1 capl := tellV hp 0 4 rfl rfl (fun h => by cases h)
       have qg : f 3 = .bool true := tellV hp 1 3 rfl rfl (fun h => by cases h)
       change OpGoal _ _ _ f wq Ext _
       refine og_guard (j := 3) (want := true) rfl qg ?_
       simp only [OpGoal]
       go_simp
       exact ⟨_, rfl, Ext.refl _, rfl⟩
      case o6 =>
       intro f wq hG hp hl
       have hE : Ext wr wq := hG
       have hS := hE.size
       have q66 : f 5 = .pointer (some ⟨gl, offl, none⟩) := tellV hp 0 5 rfl rfl (fun h => by cases h)
       have qg : f 3 = .bool true := tellV hp 1 3 rfl rfl (fun h => by cases h)
       change OpGoal _ _ _ f wq Ext _
       refine og_guard (j := 3) (want := true) rfl qg ?_
       change OpGoal _ _ _ f wq Ext _
       exact og_loadAt (P := Tryz.prog) _ _ gl offl _ _ rfl rfl q66 (fun j v h => by have := HLC.out.1 _ (hE0.trans hE) j v h; simpa using this) Tryz.underlying58 rfl (by kernel_rfl) rfl
      case o7 =>
       intro f wq hG hp hl
       have hE : Ext wr wq := hG
       have hS := hE.size
       have q67 : f 6 = .agg #[.bool lb, .slice la1 ln1 lc1, .slice la2 ln2 lc2] := tellV hp 0 6 rfl rfl (fun h => by cases h)
       have qg : f 3 = .bool true := tellV hp 1 3 rfl rfl (fun h => by cases h)
       change OpGoal _ _ _ f wq Ext _
       refine og_guard (j := 3) (want := true) rfl qg ?_
       change OpGoal _ _ _ f wq Ext _
       refine og_call (P := Tryz.prog) _ _ _ #[f 6] Tryz.func30 (by kernel_rfl) (by kernel_rfl) rfl rfl (by kernel_rfl) ?_
       rw [q67]
       refine (rqofR_calls _ (q n) 4777 _ (HLC.out.2.ext (hE0.trans hE)) (by omega)).mono ?_
       rintro e w' ⟨v', rfl, h1, h2⟩
       exact ⟨v', rfl, h2, h1.mono hS⟩
      case o8 =>
       intro f wq hG hp hl
       have hE : Ext wr wq := hG
       have hS := hE.size
       have qg : f 3 = .bool true := tellV hp 0 3 rfl rfl (fun h => by cases h)
       change OpGoal _ _ _ f wq Ext _
       refine og_guard (j := 3) (want := true) rfl qg ?_
       change OpGoal _ _ _ f wq Ext _
       exact og_load (P := Tryz.prog) _ _ g5 _ _ _ rfl rfl rfl (hbx.ext hE) Tryz.underlying50 rfl (by kernel_rfl) rfl
      case o9 =>
       intro f wq hG hp hl
       have hE : Ext wr wq := hG
       have hS := hE.size
       have q68 := tellV hp 0 7 rfl rfl (fun _ => hE)
       have q69 : f 8 = .agg #[.bool rb, .slice r1 m1 d1, .slice r2 m2' d2] := tellV hp 1 8 rfl rfl (fun h => by cases h)
       have qg : f 3 = .bool true := tellV hp 3 3 rfl rfl (fun h => by cases h)
       change OpGoal _ _ _ f wq Ext _
       refine og_guard (j := 3) (want := true) rfl qg ?_
       change OpGoal _ _ _ f wq Ext _
       refine og_call (P := Tryz.prog) _ _ _ #[f 7, f 8] Tryz.func31 (by kernel_rfl) (by kernel_rfl) rfl rfl (by kernel_rfl) ?_
       rw [q69]
       refine (rqcmp3_calls _ _ (q n) (q n) (5 * 4777) 23833 _ q68.cq (HQF.out.1.ext hE).cq (szD_of HLC.out.2.sz) HQF.out.2 (by omega)).mono ?_
       rintro e w' ⟨rfl, h2⟩
       exact ⟨_, rfl, h2, congrArg (Value.int .i64) (cmpR_self _)⟩
      case o10 =>
       intro f wq hG hp hl
       have hE : Ext wr wq := hG
       have hS := hE.size
       have q70 : f 9 = .int .i64 0 := tellV hp 0 9 rfl rfl (fun h => by cases h)
       have qg : f 3 = .bool true := tellV hp 1 3 rfl rfl (fun h => by cases h)
       change OpGoal _ _ _ f wq Ext _
       refine og_guard (j := 3) (want := true) rfl qg ?_
       simp only [OpGoal]
       go_simp
       exact ⟨_, rfl, Ext.refl _, rfl⟩
      case o11 =>
       intro f wq hG hp hl
       have hE : Ext wr wq := hG
       have hS := hE.size
       have q64 : f 3 = .bool true := tellV hp 0 3 rfl rfl (fun h => by cases h)
       have q71 : f 10 = .bool true := tellV hp 1 10 rfl rfl (fun h => by cases h)
       simp only [OpGoal]
       go_simp
       exact ⟨_, rfl, Ext.refl _, rfl⟩
      case o12 =>
       intro f wq hG hp hl
       have hE : Ext wr wq := hG
       have hS := hE.size
       have q72 : f 11 = .bool true := tellV hp 0 11 rfl rfl (fun h => by cases h)
       simp only [OpGoal]
       go_simp
       exact ⟨_, rfl, Ext.refl _, rfl⟩
      case o13 =>
       intro f wq hG hp hl
       have hE : Ext wr wq := hG
       have hS := hE.size
       have qg : f 12 = .bool true := tellV hp 0 12 rfl rfl (fun h => by cases h)
       change OpGoal _ _ _ f wq Ext _
       refine og_guard (j := 12) (want := true) rfl qg ?_
       simp only [OpGoal]
       go_simp
       exact ⟨_, rfl, Ext.refl _, rfl⟩
      case o14 =>
       intro f wq hG hp hl
       have hE : Ext wr wq := hG
       have hS := hE.size
       have q74 : f 13 = .slice ad n cap := tellV hp 0 13 rfl rfl (fun h => by cases h)
       have qg : f 12 = .bool true := tellV hp 1 12 rfl rfl (fun h => by cases h)
       change OpGoal _ _ _ f wq Ext _
       refine og_guard (j := 12) (want := true) rfl qg ?_
       simp only [OpGoal]
       go_simp
       exact ⟨_, rfl, Ext.refl _, rfl⟩
      case o15 =>
       intro f wq hG hp hl
       have hE : Ext wr wq := hG
       have hS := hE.size
       have q75 : f 14 = .int .i64 (n : Int) := tellV hp 0 14 rfl rfl (fun h => by cases h)
       have qg : f 12 = .bool true := tellV hp 1 12 rfl rfl (fun h => by cases h)
       change OpGoal _ _ _ f wq Ext _
       refine og_guard (j := 12) (want := true) rfl qg ?_
       change OpGoal _ _ _ f wq Ext _
       refine og_call (P := Tryz.prog) _ _ _ #[f 14] Tryz.func16 (by kernel_rfl) (by kernel_rfl) rfl rfl (by kernel_rfl) ?_
       rw [q75]
       refine (unit_calls n _ (by omega)).mono ?_
       rintro e w' ⟨v', rfl, h1, h2⟩
       exact ⟨v', rfl, h2, h1.mono hS (by omega)⟩
      case o16 =>
       intro f wq hG hp hl
       have hE : Ext wr wq := hG
       have hS := hE.size
       have qg : f 12 = .bool true := tellV hp 0 12 rfl rfl (fun h => by cases h)
       change OpGoal _ _ _ f wq Ext _
       refine og_guard (j := 12) (want := true) rfl qg ?_
       simp only [OpGoal]
       go_simp
       exact ⟨_, rfl, Ext.refl _, rfl⟩
      case o17 =>
       intro f wq hG hp hl
       have hE : Ext wr wq := hG
       have hS := hE.size
       have q76 := tellV hp 0 15 rfl rfl (fun _ => hE)
       have q77 : f 16 = .slice ad n cap := tellV hp 1 16 rfl rfl (fun h => by cases h)
       have qg : f 12 = .bool true := tellV hp 3 12 rfl rfl (fun h => by cases h)
       change OpGoal _ _ _ f wq Ext _
       refine og_guard (j := 12) (want := true) rfl qg ?_
       change OpGoal _ _ _ f wq Ext _
       refine og_call (P := Tryz.prog) _ _ _ #[f 15, f 16] Tryz.func26 (by kernel_rfl) (by kernel_rfl) rfl rfl (by kernel_rfl) ?_
       rw [q77]
       refine (product_calls 1 6 1 30 _ _ (unitM n) M _ (q76.ml (by omega)) (TM.out.1 (HV.out.ext (E9r.trans hE))) (unitM_one n) HML.out (by rw [unitM_len]; omega) (by omega) (by omega) (by omega) (by omega)).mono ?_
       rintro e w' ⟨v', rfl, h1, h2⟩
       exact ⟨v', rfl, h2, h1.mono hS (by omega)⟩
      case o18 =>
       intro f wq hG hp hl
       have hE : Ext wr wq := hG
       have hS := hE.size
       have qg : f 12 = .bool true := tellV hp 0 12 rfl rfl (fun h => by cases h)
       change OpGoal _ _ _ f wq Ext _
       refine og_guard (j := 12) (want := true) rfl qg ?_
       simp only [OpGoal]
       go_simp
       exact ⟨_, rfl, Ext.refl _, rfl⟩
      case o19 =>
       intro f wq hG hp hl
       have hE : Ext wr wq := hG
       have hS := hE.size
       have q79 : f 18 = .slice ad n cap := tellV hp 0 18 rfl rfl (fun h => by cases h)
       have qg : f 12 = .bool true := tellV hp 1 12 rfl rfl (fun h => by cases h)
       change OpGoal _ _ _ f wq Ext _
       refine og_guard (j := 12) (want := true) rfl qg ?_
       simp only [OpGoal]
       go_simp
       exact ⟨_, rfl, Ext.refl _, rfl⟩
      case o20 =>
       intro f wq hG hp hl
       have hE : Ext wr wq := hG
       have hS := hE.size
       have q80 : f 19 = .int .i64 (n : Int) := tellV hp 0 19 rfl rfl (fun h => by cases h)
       have qg : f 12 = .bool true := tellV hp 2 12 rfl rfl (fun h => by cases h)
       change OpGoal _ _ _ f wq Ext _
       refine og_guard (j := 12) (want := true) rfl qg ?_
       change OpGoal _ _ _ f wq Ext _
       refine og_call (P := Tryz.prog) _ _ _ #[f 19] Tryz.func16 (by kernel_rfl) (by kernel_rfl) rfl rfl (by kernel_rfl) ?_
       rw [q80]
       refine (unit_calls n _ (by omega)).mono ?_
       rintro e w' ⟨v', rfl, h1, h2⟩
       exact ⟨v', rfl, h2, h1.mono hS (by omega)⟩
      case o21 =>
       intro f wq hG hp hl
       have hE : Ext wr wq := hG
       have hS := hE.size
       have qg : f 12 = .bool true := tellV hp 0 12 rfl rfl (fun h => by cases h)
       change OpGoal _ _ _ f wq Ext _
       refine og_guard (j := 12) (want := true) rfl qg ?_
       simp only [OpGoal]
       go_simp
       exact ⟨_, rfl, Ext.refl _, rfl⟩
      case o22 =>
       intro f wq hG hp hl
       have hE : Ext wr wq := hG
       have hS := hE.size
       have q81 := tellV hp 0 20 rfl rfl (fun _ => hE)
       have q82 : f 21 = .slice ad n cap := tellV hp 1 21 rfl rfl (fun h => by cases h)
       have qg : f 12 = .bool true := tellV hp 3 12 rfl rfl (fun h => by cases h)
       change OpGoal _ _ _ f wq Ext _
       refine og_guard (j := 12) (want := true) rfl qg ?_
       change OpGoal _ _ _ f wq Ext _
       refine og_call (P := Tryz.prog) _ _ _ #[f 20, f 21] Tryz.func26 (by kernel_rfl) (by kernel_rfl) rfl rfl (by kernel_rfl) ?_
       rw [q82]
       refine (product_calls 1 6 1 30 _ _ (unitM n) M _ (q81.ml (by omega)) (TM.out.1 (HV.out.ext (E9r.trans hE))) (unitM_one n) HML.out (by rw [unitM_len]; omega) (by omega) (by omega) (by omega) (by omega)).mono ?_
       rintro e w' ⟨v', rfl, h1, h2⟩
       exact ⟨v', rfl, h2, h1.mono hS (by omega)⟩
      case o23 =>
       intro f wq hG hp hl
       have hE : Ext wr wq := hG
       have hS := hE.size
       have qg : f 12 = .bool true := tellV hp 1 12 rfl rfl (fun h => by cases h)
       change OpGoal _ _ _ f wq Ext _
       refine og_guard (j := 12) (want := true) rfl qg ?_
       change OpGoal _ _ _ f wq Ext _
       refine og_call (P := Tryz.prog) _ _ _ #[.int .i64 60] Tryz.func16 (by kernel_rfl) (by kernel_rfl) rfl rfl (by kernel_rfl) ?_
       refine (unit_calls 60 _ (by omega)).mono ?_
       rintro e w' ⟨v', rfl, h1, h2⟩
       exact ⟨v', rfl, h2, h1.mono hS (by omega)⟩
      case o24 =>
       intro f wq hG hp hl
       have hE : Ext wr wq := hG
       have hS := hE.size
       have q83 := tellV hp 0 22 rfl rfl (fun _ => hE)
       have q84 := tellV hp 1 23 rfl rfl (fun _ => hE)
       have qg : f 12 = .bool true := tellV hp 3 12 rfl rfl (fun h => by cases h)
       change OpGoal _ _ _ f wq Ext _
       refine og_guard (j := 12) (want := true) rfl qg ?_
       change OpGoal _ _ _ f wq Ext _
       refine og_call (P := Tryz.prog) _ _ _ #[f 22, f 23] Tryz.func26 (by kernel_rfl) (by kernel_rfl) rfl rfl (by kernel_rfl) ?_
       refine (product_calls 271 1 30 1 _ _ (sideP M n) (unitM 60) _ (q83.ml (by omega)) (q84.ml (by omega)) (sideP_len HML.out) (unitM_one 60) (by unfold sideP; rw [List.length_map, unitM_len]; omega) (by omega) (by omega) (by omega) (by omega)).mono ?_
       rintro e w' ⟨v', rfl, h1, h2⟩
       exact ⟨v', rfl, h2, h1.mono hS (by omega)⟩
      case o25 =>
       intro f wq hG hp hl
       have hE : Ext wr wq := hG
       have hS := hE.size
       have q78 := tellV hp 0 17 rfl rfl (fun _ => hE)
       have q85 := tellV hp 1 24 rfl rfl (fun _ => hE)
       have qg : f 12 = .bool true := tellV hp 3 12 rfl rfl (fun h => by cases h)
       change OpGoal _ _ _ f wq Ext _
       refine og_guard (j := 12) (want := true) rfl qg ?_
       change OpGoal _ _ _ f wq Ext _
       refine og_call (P := Tryz.prog) _ _ _ #[f 17, f 24] Tryz.func13 (by kernel_rfl) (by kernel_rfl) rfl rfl (by kernel_rfl) ?_
       refine (sameM_calls _ _ _ _ _ (q78.mle (by omega)) (q85.mle (by omega))).mono ?_
       rintro e w' ⟨rfl, h2⟩
       exact ⟨_, rfl, h2, congrArg Value.bool HSS.out.symm⟩
      case o26 =>
       intro f wq hG hp hl
       have hE : Ext wr wq := hG
       have hS := hE.size
       have q73 : f 12 = .bool true := tellV hp 0 12 rfl rfl (fun h => by cases h)
       have q86 : f 25 = .bool true := tellV hp 1 25 rfl rfl (fun h => by cases h)
       simp only [OpGoal]
       go_simp
       exact ⟨_, rfl, Ext.refl _, rfl⟩
      case o27 =>
       intro f wq hG hp hl
       have hE : Ext wr wq := hG
       have hS := hE.size
       have q87 : f 26 = .bool true := tellV hp 0 26 rfl rfl (fun h => by cases h)
       simp only [OpGoal]
       go_simp
       exact ⟨_, rfl, Ext.refl _, rfl⟩
      case o28 =>
       intro f wq hG hp hl
       have hE : Ext wr wq := hG
       have hS := hE.size
       have qg : f 27 = .bool true := tellV hp 0 27 rfl rfl (fun h => by cases h)
       exact og_skip rfl qg (by decide) trivial
      case o29 =>
       intro f wq hG hp hl
       have hE : Ext wr wq := hG
       have hS := hE.size
       have qg : f 27 = .bool true := tellV hp 1 27 rfl rfl (fun h => by cases h)
       exact og_skip rfl qg (by decide) trivial
      case o30 =>
       intro f wq hG hp hl
       have hE : Ext wr wq := hG
       have hS := hE.size
       have qg : f 27 = .bool true := tellV hp 1 27 rfl rfl (fun h => by cases h)
       exact og_skip rfl qg (by decide) trivial
      case o31 =>
       intro f wq hG hp hl
       have hE : Ext wr wq := hG
       have hS := hE.size
       have q88 : f 27 = .bool true := tellV hp 0 27 rfl rfl (fun h => by cases h)
       simp only [OpGoal]
       go_simp
       exact ⟨_, rfl, Ext.refl _, rfl⟩
      case o32 =>
       intro f wq hG hp hl
       have hE : Ext wr wq := hG
       have hS := hE.size
       have q92 : f 31 = .bool true := tellV hp 0 31 rfl rfl (fun h => by cases h)
       simp only [OpGoal]
       go_simp
       exact ⟨_, rfl, Ext.refl _, rfl⟩
     ·intro f wq hG hp
      have hE : Ext wr wq := ChgS.nil hG
      have q6 : f 32 = .bool true := endV hp 32 (by decide) rfl (fun h => by cases h)
      try simp only [q6]
      clear hp
      go_wp2
      go_ret
      exact ⟨rfl, E9r.trans hE⟩
    | false =>
     refine wp_region_puts [] [PP.val (.slice (some ⟨gl, offl, none⟩) 1 capl), PP.val (.int .i64 1), PP.val (.bool true), PP.val (.bool true), PP.val (.slice (some ⟨gl, offl, none⟩) 1 capl), PP.val (.pointer (some ⟨gl, offl, none⟩)), PP.val (.agg #[.bool lb, .slice la1 ln1 lc1, .slice la2 ln2 lc2]), PP.frQd (q n), PP.val (.agg #[.bool rb, .slice r1 m1 d1, .slice r2 m2' d2]), PP.val (.int .i64 0), PP.val (.bool true), PP.val (.bool true), PP.val (.bool true), PP.val (.slice ad n cap), PP.val (.int .i64 (n : Int)), PP.mO 1 (unitM n), PP.val (.slice ad n cap), PP.mO 271 (sideP M n), PP.val (.slice ad n cap), PP.val (.int .i64 (n : Int)), PP.mO 1 (unitM n), PP.val (.slice ad n cap), PP.mO 271 (sideP M n), PP.mO 1 (unitM 60), PP.mO 244861 (sideQ M n), PP.val (.bool false), PP.val (.bool false), PP.val (.bool false), PP.val (.slice ad n cap), PP.pred (fun v => ∃ m : Int, v = .int .i64 m ∧ 60 ≤ m), PP.val (.bool true), PP.val (.bool true), PP.val (.bool true)] [] [0, 1, 2, 3, 4, 5, 6, 7, 8, 9, 10, 11, 12, 13, 14, 15, 16, 17, 18, 19, 20, 21, 22, 23, 24, 25, 26, 27, 28, 29, 30, 31, 32]
      (by kernel_rfl) (by kernel_rfl) (fun f => (by simp only [fillR, fillL, List.setIfInBounds_toArray, List.set_cons_succ, List.set_cons_zero, Nat.reduceAdd]; rfl)) ?_ ?_ ?_ ?_ ?_
     ·intro x hx; cases hx
     ·intro x hx; cases hx
     ·intro x hx; cases hx
     ·refine ⟨?o0, ?o1, ?o2, ?o3, ?o4, ?o5, ?o6, ?o7, ?o8, ?o9, ?o10, ?o11, ?o12, ?o13, ?o14, ?o15, ?o16, ?o17, ?o18, ?o19, ?o20, ?o21, ?o22, ?o23, ?o24, ?o25, ?o26, ?o27, ?o28, ?o29, ?o30, ?o31, ?o32, trivial⟩
      case o0 =>
       intro f wq hG hp hl
       have hE : Ext wr wq := hG
       have hS := hE.size
       simp only [OpGoal]
       go_simp
       exact ⟨_, rfl, Ext.refl _, rfl⟩
      case o1 =>
       intro f wq hG hp hl
       have hE : Ext wr wq := hG
       have hS := hE.size
       have q61 : f 0 = .slice (some ⟨gl, offl, none⟩) 1 capl := tellV hp 0 0 rfl rfl (fun h => by cases h)
       simp only [OpGoal]
       go_simp
       exact ⟨_, rfl, Ext.refl _, rfl⟩
      case o2 =>
       intro f wq hG hp hl
       have hE : Ext wr wq := hG
       have hS := hE.size
       have q62 : f 1 = .int .i64 1 := tellV hp 0 1 rfl rfl (fun h => by cases h)
       simp only [OpGoal]
       go_simp
       exact ⟨_, rfl, Ext.refl _, rfl⟩
      case o3 =>
       intro f wq hG hp hl
       have hE : Ext wr wq := hG
       have hS := hE.size
       have q63 : f 2 = .bool true := tellV hp 0 2 rfl rfl (fun h => by cases h)
       simp only [OpGoal]
       go_simp
       exact ⟨_, rfl, Ext.refl _, rfl⟩
      case o4 =>
       intro f wq hG hp hl
       have hE : Ext wr wq := hG
       have hS := hE.size
       have qg : f 3 = .bool true := tellV hp 0 3 rfl rfl (fun h => by cases h)
       change OpGoal _ _ _ f wq Ext _
       refine og_guard (j := 3) (want := true) rfl qg ?_
       simp only [OpGoal]
       go_simp
       exact ⟨_, rfl, Ext.refl _, rfl⟩
      case o5 =>
       intro f wq hG hp hl
       have hE : Ext wr wq := hG
       have hS := hE.size
       have q65 : f 4 = .slice (some ⟨gl, offl, none⟩) 1 capl := tellV hp 0 4 rfl rfl (fun h => by cases h)
       have qg : f 3 = .bool true := tellV hp 1 3 rfl rfl (fun h => by cases h)
       change OpGoal _ _ _ f wq Ext _
       refine og_guard (j := 3) (want := true) rfl qg ?_
       simp only [OpGoal]
       go_simp
       exact ⟨_, rfl, Ext.refl _, rfl⟩
      case o6 =>
       intro f wq hG hp hl
       have hE : Ext wr wq := hG
       have hS := hE.size
       have q66 : f 5 = .pointer (some ⟨gl, offl, none⟩) := tellV hp 0 5 rfl rfl (fun h => by cases h)
       have qg : f 3 = .bool true := tellV hp 1 3 rfl rfl (fun h => by cases h)
       change OpGoal _ _ _ f wq Ext _
       refine og_guard (j := 3) (want := true) rfl qg ?_
       change OpGoal _ _ _ f wq Ext _
       exact og_loadAt (P := Tryz.prog) _ _ gl offl _ _ rfl rfl q66 (fun j v h => by have := HLC.out.1 _ (hE0.trans hE) j v h; simpa using this) Tryz.underlying58 rfl (by kernel_rfl) rfl
      case o7 =>
       intro f wq hG hp hl
       have hE : Ext wr wq := hG
       have hS := hE.size
       have q67 : f 6 = .agg #[.bool lb, .slice la1 ln1 lc1, .slice la2 ln2 lc2] := tellV hp 0 6 rfl rfl (fun h => by cases h)
       have qg : f 3 = .bool true := tellV hp 1 3 rfl rfl (fun h => by cases h)
       change OpGoal _ _ _ f wq Ext _
       refine og_guard (j := 3) (want := true) rfl qg ?_
       change OpGoal _ _ _ f wq Ext _
       refine og_call (P := Tryz.prog) _ _ _ #[f 6] Tryz.func30 (by kernel_rfl) (by kernel_rfl) rfl rfl (by kernel_rfl) ?_
       rw [q67]
       refine (rqofR_calls _ (q n) 4777 _ (HLC.out.2.ext (hE0.trans hE)) (by omega)).mono ?_
       rintro e w' ⟨v', rfl, h1, h2⟩
       exact ⟨v', rfl, h2, h1.mono hS⟩
      case o8 =>
       intro f wq hG hp hl
       have hE : Ext wr wq := hG
       have hS := hE.size
       have qg : f 3 = .bool true := tellV hp 0 3 rfl rfl (fun h => by cases h)
       change OpGoal _ _ _ f wq Ext _
       refine og_guard (j := 3) (want := true) rfl qg ?_
       change OpGoal _ _ _ f wq Ext _
       exact og_load (P := Tryz.prog) _ _ g5 _ _ _ rfl rfl rfl (hbx.ext hE) Tryz.underlying50 rfl (by kernel_rfl) rfl
      case o9 =>
       intro f wq hG hp hl
       have hE : Ext wr wq := hG
       have hS := hE.size
       have q68 := tellV hp 0 7 rfl rfl (fun _ => hE)
       have q69 : f 8 = .agg #[.bool rb, .slice r1 m1 d1, .slice r2 m2' d2] := tellV hp 1 8 rfl rfl (fun h => by cases h)
       have qg : f 3 = .bool true := tellV hp 3 3 rfl rfl (fun h => by cases h)
       change OpGoal _ _ _ f wq Ext _
       refine og_guard (j := 3) (want := true) rfl qg ?_
       change OpGoal _ _ _ f wq Ext _
       refine og_call (P := Tryz.prog) _ _ _ #[f 7, f 8] Tryz.func31 (by kernel_rfl) (by kernel_rfl) rfl rfl (by kernel_rfl) ?_
       rw [q69]
       refine (rqcmp3_calls _ _ (q n) (q n) (5 * 4777) 23833 _ q68.cq (HQF.out.1.ext hE).cq (szD_of HLC.out.2.sz) HQF.out.2 (by omega)).mono ?_
       rintro e w' ⟨rfl, h2⟩
       exact ⟨_, rfl, h2, congrArg (Value.int .i64) (cmpR_self _)⟩
      case o10 =>
       intro f wq hG hp hl
       have hE : Ext wr wq := hG
       have hS := hE.size
       have q70 : f 9 = .int .i64 0 := tellV hp 0 9 rfl rfl (fun h => by cases h)
       have qg : f 3 = .bool true := tellV hp 1 3 rfl rfl (fun h => by cases h)
       change OpGoal _ _ _ f wq Ext _
       refine og_guard (j := 3) (want := true) rfl qg ?_
       simp only [OpGoal]
       go_simp
       exact ⟨_, rfl, Ext.refl _, rfl⟩
      case o11 =>
       intro f wq hG hp hl
       have hE : Ext wr wq := hG
       have hS := hE.size
       have q64 : f 3 = .bool true := tellV hp 0 3 rfl rfl (fun h => by cases h)
       have q71 : f 10 = .bool true := tellV hp 1 10 rfl rfl (fun h => by cases h)
       simp only [OpGoal]
       go_simp
       exact ⟨_, rfl, Ext.refl _, rfl⟩
      case o12 =>
       intro f wq hG hp hl
       have hE : Ext wr wq := hG
       have hS := hE.size
       have q72 : f 11 = .bool true := tellV hp 0 11 rfl rfl (fun h => by cases h)
       simp only [OpGoal]
       go_simp
       exact ⟨_, rfl, Ext.refl _, rfl⟩
      case o13 =>
       intro f wq hG hp hl
       have hE : Ext wr wq := hG
       have hS := hE.size
       have qg : f 12 = .bool true := tellV hp 0 12 rfl rfl (fun h => by cases h)
       change OpGoal _ _ _ f wq Ext _
       refine og_guard (j := 12) (want := true) rfl qg ?_
       simp only [OpGoal]
       go_simp
       exact ⟨_, rfl, Ext.refl _, rfl⟩
      case o14 =>
       intro f wq hG hp hl
       have hE : Ext wr wq := hG
       have hS := hE.size
       have q74 : f 13 = .slice ad n cap := tellV hp 0 13 rfl rfl (fun h => by cases h)
       have qg : f 12 = .bool true := tellV hp 1 12 rfl rfl (fun h => by cases h)
       change OpGoal _ _ _ f wq Ext _
       refine og_guard (j := 12) (want := true) rfl qg ?_
       simp only [OpGoal]
       go_simp
       exact ⟨_, rfl, Ext.refl _, rfl⟩
      case o15 =>
       intro f wq hG hp hl
       have hE : Ext wr wq := hG
       have hS := hE.size
       have q75 : f 14 = .int .i64 (n : Int) := tellV hp 0 14 rfl rfl (fun h => by cases h)
       have qg : f 12 = .bool true := tellV hp 1 12 rfl rfl (fun h => by cases h)
       change OpGoal _ _ _ f wq Ext _
       refine og_guard (j := 12) (want := true) rfl qg ?_
       change OpGoal _ _ _ f wq Ext _
       refine og_call (P := Tryz.prog) _ _ _ #[f 14] Tryz.func16 (by kernel_rfl) (by kernel_rfl) rfl rfl (by kernel_rfl) ?_
       rw [q75]
       refine (unit_calls n _ (by omega)).mono ?_
       rintro e w' ⟨v', rfl, h1, h2⟩
       exact ⟨v', rfl, h2, h1.mono hS (by omega)⟩
      case o16 =>
       intro f wq hG hp hl
       have hE : Ext wr wq := hG
       have hS := hE.size
       have qg : f 12 = .bool true := tellV hp 0 12 rfl rfl (fun h => by cases h)
       change OpGoal _ _ _ f wq Ext _
       refine og_guard (j := 12) (want := true) rfl qg ?_
       simp only [OpGoal]
       go_simp
       exact ⟨_, rfl, Ext.refl _, rfl⟩
      case o17 =>
       intro f wq hG hp hl
       have hE : Ext wr wq := hG
       have hS := hE.size
       have q76 := tellV hp 0 15 rfl rfl (fun _ => hE)
       have q77 : f 16 = .slice ad n cap := tellV hp 1 16 rfl rfl (fun h => by cases h)
       have qg : f 12 = .bool true := tellV hp 3 12 rfl rfl (fun h => by cases h)
       change OpGoal _ _ _ f wq Ext _
       refine og_guard (j := 12) (want := true) rfl qg ?_
       change OpGoal _ _ _ f wq Ext _
       refine og_call (P := Tryz.prog) _ _ _ #[f 15, f 16] Tryz.func26 (by kernel_rfl) (by kernel_rfl) rfl rfl (by kernel_rfl) ?_
       rw [q77]
       refine (product_calls 1 6 1 30 _ _ (unitM n) M _ (q76.ml (by omega)) (TM.out.1 (HV.out.ext (E9r.trans hE))) (unitM_one n) HML.out (by rw [unitM_len]; omega) (by omega) (by omega) (by omega) (by omega)).mono ?_
       rintro e w' ⟨v', rfl, h1, h2⟩
       exact ⟨v', rfl, h2, h1.mono hS (by omega)⟩
      case o18 =>
       intro f wq hG hp hl
       have hE : Ext wr wq := hG
       have hS := hE.size
       have qg : f 12 = .bool true := tellV hp 0 12 rfl rfl (fun h => by cases h)
       change OpGoal _ _ _ f wq Ext _
       refine og_guard (j := 12) (want := true) rfl qg ?_
       simp only [OpGoal]
       go_simp
       exact ⟨_, rfl, Ext.refl _, rfl⟩
      case o19 =>
       intro f wq hG hp hl
       have hE : Ext wr wq := hG
       have hS := hE.size
       have q79 : f 18 = .slice ad n cap := tellV hp 0 18 rfl rfl (fun h => by cases h)
       have qg : f 12 = .bool true := tellV hp 1 12 rfl rfl (fun h => by cases h)
       change OpGoal _ _ _ f wq Ext _
       refine og_guard (j := 12) (want := true) rfl qg ?_
       simp only [OpGoal]
       go_simp
       exact ⟨_, rfl, Ext.refl _, rfl⟩
      case o20 =>
       intro f wq hG hp hl
       have hE : Ext wr wq := hG
       have hS := hE.size
       have q80 : f 19 = .int .i64 (n : Int) := tellV hp 0 19 rfl rfl (fun h => by cases h)
       have qg : f 12 = .bool true := tellV hp 2 12 rfl rfl (fun h => by cases h)
       change OpGoal _ _ _ f wq Ext _
       refine og_guard (j := 12) (want := true) rfl qg ?_
       change OpGoal _ _ _ f wq Ext _
       refine og_call (P := Tryz.prog) _ _ _ #[f 19] Tryz.func16 (by kernel_rfl) (by kernel_rfl) rfl rfl (by kernel_rfl) ?_
       rw [q80]
       refine (unit_calls n _ (by omega)).mono ?_
       rintro e w' ⟨v', rfl, h1, h2⟩
       exact ⟨v', rfl, h2, h1.mono hS (by omega)⟩
      case o21 =>
       intro f wq hG hp hl
       have hE : Ext wr wq := hG
       have hS := hE.size
       have qg : f 12 = .bool true := tellV hp 0 12 rfl rfl (fun h => by cases h)
       change OpGoal _ _ _ f wq Ext _
       refine og_guard (j := 12) (want := true) rfl qg ?_
       simp only [OpGoal]
       go_simp
       exact ⟨_, rfl, Ext.refl _, rfl⟩
      case o22 =>
       intro f wq hG hp hl
       have hE : Ext wr wq := hG
       have hS := hE.size
       have q81 := tellV hp 0 20 rfl rfl (fun _ => hE)
       have q82 : f 21 = .slice ad n cap := tellV hp 1 21 rfl rfl (fun h => by cases h)
       have qg : f 12 = .bool true := tellV hp 3 12 rfl rfl (fun h => by cases h)
       change OpGoal _ _ _ f wq Ext _
       refine og_guard (j := 12) (want := true) rfl qg ?_
       change OpGoal _ _ _ f wq Ext _
       refine og_call (P := Tryz.prog) _ _ _ #[f 20, f 21] Tryz.func26 (by kernel_rfl) (by kernel_rfl) rfl rfl (by kernel_rfl) ?_
       rw [q82]
       refine (product_calls 1 6 1 30 _ _ (unitM n) M _ (q81.ml (by omega)) (TM.out.1 (HV.out.ext (E9r.trans hE))) (unitM_one n) HML.out (by rw [unitM_len]; omega) (by omega) (by omega) (by omega) (by omega)).mono ?_
       rintro e w' ⟨v', rfl, h1, h2⟩
       exact ⟨v', rfl, h2, h1.mono hS (by omega)⟩
      case o23 =>
       intro f wq hG hp hl
       have hE : Ext wr wq := hG
       have hS := hE.size
       have qg : f 12 = .bool true := tellV hp 1 12 rfl rfl (fun h => by cases h)
       change OpGoal _ _ _ f wq Ext _
       refine og_guard (j := 12) (want := true) rfl qg ?_
       change OpGoal _ _ _ f wq Ext _
       refine og_call (P := Tryz.prog) _ _ _ #[.int .i64 60] Tryz.func16 (by kernel_rfl) (by kernel_rfl) rfl rfl (by kernel_rfl) ?_
       refine (unit_calls 60 _ (by omega)).mono ?_
       rintro e w' ⟨v', rfl, h1, h2⟩
       exact ⟨v', rfl, h2, h1.mono hS (by omega)⟩
      case o24 =>
       intro f wq hG hp hl
       have hE : Ext wr wq := hG
       have hS := hE.size
       have q83 := tellV hp 0 22 rfl rfl (fun _ => hE)
       have q84 := tellV hp 1 23 rfl rfl (fun _ => hE)
       have qg : f 12 = .bool true := tellV hp 3 12 rfl rfl (fun h => by cases h)
       change OpGoal _ _ _ f wq Ext _
       refine og_guard (j := 12) (want := true) rfl qg ?_
       change OpGoal _ _ _ f wq Ext _
       refine og_call (P := Tryz.prog) _ _ _ #[f 22, f 23] Tryz.func26 (by kernel_rfl) (by kernel_rfl) rfl rfl (by kernel_rfl) ?_
       refine (product_calls 271 1 30 1 _ _ (sideP M n) (unitM 60) _ (q83.ml (by omega)) (q84.ml (by omega)) (sideP_len HML.out) (unitM_one 60) (by unfold sideP; rw [List.length_map, unitM_len]; omega) (by omega) (by omega) (by omega) (by omega)).mono ?_
       rintro e w' ⟨v', rfl, h1, h2⟩
       exact ⟨v', rfl, h2, h1.mono hS (by omega)⟩
      case o25 =>
       intro f wq hG hp hl
       have hE : Ext wr wq := hG
       have hS := hE.size
       have q78 := tellV hp 0 17 rfl rfl (fun _ => hE)
       have q85 := tellV hp 1 24 rfl rfl (fun _ => hE)
       have qg : f 12 = .bool true := tellV hp 3 12 rfl rfl (fun h => by cases h)
       change OpGoal _ _ _ f wq Ext _
       refine og_guard (j := 12) (want := true) rfl qg ?_
       change OpGoal _ _ _ f wq Ext _
       refine og_call (P := Tryz.prog) _ _ _ #[f 17, f 24] Tryz.func13 (by kernel_rfl) (by kernel_rfl) rfl rfl (by kernel_rfl) ?_
       refine (sameM_calls _ _ _ _ _ (q78.mle (by omega)) (q85.mle (by omega))).mono ?_
       rintro e w' ⟨rfl, h2⟩
       exact ⟨_, rfl, h2, congrArg Value.bool HSS.out.symm⟩
      case o26 =>
       intro f wq hG hp hl
       have hE : Ext wr wq := hG
       have hS := hE.size
       have q73 : f 12 = .bool true := tellV hp 0 12 rfl rfl (fun h => by cases h)
       have q86 : f 25 = .bool false := tellV hp 1 25 rfl rfl (fun h => by cases h)
       simp only [OpGoal]
       go_simp
       exact ⟨_, rfl, Ext.refl _, rfl⟩
      case o27 =>
       intro f wq hG hp hl
       have hE : Ext wr wq := hG
       have hS := hE.size
       have q87 : f 26 = .bool false := tellV hp 0 26 rfl rfl (fun h => by cases h)
       simp only [OpGoal]
       go_simp
       exact ⟨_, rfl, Ext.refl _, rfl⟩
      case o28 =>
       intro f wq hG hp hl
       have hE : Ext wr wq := hG
       have hS := hE.size
       have qg : f 27 = .bool false := tellV hp 0 27 rfl rfl (fun h => by cases h)
       change OpGoal _ _ _ f wq Ext _
       refine og_guard (j := 27) (want := false) rfl qg ?_
       simp only [OpGoal]
       go_simp
       exact ⟨_, rfl, Ext.refl _, rfl⟩
      case o29 =>
       intro f wq hG hp hl
       have hE : Ext wr wq := hG
       have hS := hE.size
       have q89 : f 28 = .slice ad n cap := tellV hp 0 28 rfl rfl (fun h => by cases h)
       have qg : f 27 = .bool false := tellV hp 1 27 rfl rfl (fun h => by cases h)
       change OpGoal _ _ _ f wq Ext _
       refine og_guard (j := 27) (want := false) rfl qg ?_
       change OpGoal _ _ _ f wq Ext _
       refine og_call (P := Tryz.prog) _ _ _ #[f 28] Tryz.func32 (by kernel_rfl) (by kernel_rfl) rfl rfl (by kernel_rfl) ?_
       rw [q89]
       refine (most_calls 6 _ M _ (TM.out.1 (HV.out.ext (E9r.trans hE))) (fun r hr => Nat.le_trans (HML.out r hr) (by omega)) (by omega)).mono ?_
       rintro e w' ⟨m, rfl, hm, h2⟩
       refine ⟨_, rfl, h2, m, rfl, ?_⟩
       rcases Int.lt_or_le m 60 with h6 | h6
       ·exact absurd (congrArg (List.map fmV) (side_eq ((most_lt hm (by omega)).1 h6))) (of_decide_eq_false HSS.out.symm)
       ·exact h6
      case o30 =>
       intro f wq hG hp hl
       have hE : Ext wr wq := hG
       have hS := hE.size
       have q90 := tellV hp 0 29 rfl rfl (fun _ => hE)
       have qg : f 27 = .bool false := tellV hp 1 27 rfl rfl (fun h => by cases h)
       change OpGoal _ _ _ f wq Ext _
       refine og_guard (j := 27) (want := false) rfl qg ?_
       obtain ⟨m, hm, h60⟩ := q90
       simp only [OpGoal]
       go_simp
       exact ⟨_, rfl, Ext.refl _, congrArg Value.bool (by first | exact decide_eq_true h60 | simp [h60])⟩
      case o31 =>
       intro f wq hG hp hl
       have hE : Ext wr wq := hG
       have hS := hE.size
       have q88 : f 27 = .bool false := tellV hp 0 27 rfl rfl (fun h => by cases h)
       have q91 : f 30 = .bool true := tellV hp 1 30 rfl rfl (fun h => by cases h)
       simp only [OpGoal]
       go_simp
       exact ⟨_, rfl, Ext.refl _, rfl⟩
      case o32 =>
       intro f wq hG hp hl
       have hE : Ext wr wq := hG
       have hS := hE.size
       have q92 : f 31 = .bool true := tellV hp 0 31 rfl rfl (fun h => by cases h)
       simp only [OpGoal]
       go_simp
       exact ⟨_, rfl, Ext.refl _, rfl⟩
     ·intro f wq hG hp
      have hE : Ext wr wq := ChgS.nil hG
      have q6 : f 32 = .bool true := endV hp 32 (by decide) rfl (fun h => by cases h)
      try simp only [q6]
      clear hp
      go_wp2
      go_ret
      exact ⟨rfl, E9r.trans hE⟩
   ·have hlt : (i : Int) < (n : Int) := by omega
    have hltn : (i : Int) < (n : Int) := by omega
    obtain ⟨y, hy⟩ : ∃ y, Z[i]? = some y := ⟨_, List.getElem?_eq_getElem (by rw [HZL.out]; exact hin)⟩
    obtain ⟨r, hr⟩ : ∃ r, (timesM M X)[i]? = some r := ⟨_, List.getElem?_eq_getElem (by unfold timesM; rw [List.length_map, HMN.out]; omega)⟩
    obtain ⟨ady', ny', capy', -, hsly, -, haty⟩ := (HZQ.out w (Ext.refl w)).at
    simp only [Value.slice.injEq] at hsly
    obtain ⟨rfl, -, -⟩ := hsly
    obtain ⟨gy, offy, rfl, yb, ya1, yn1, yc1, ya2, yn2, yc2, hyc, hyR⟩ := haty i y hy
    obtain ⟨gr, offr, rfl, rrb, ra1, rn1, rc1, ra2, rn2, rc2, hrc, hrR⟩ := HATR.out i r hr
    have HYC := Lib.hid (And.intro hyc hyR)
    have HRC := Lib.hid (And.intro hrc hrR)
    have HQS1 := Lib.hid (HQS.out i y r hy hr)
    have E6r := e69.trans hE0
    have hmul : i * 1986 + 1986 = (i + 1) * 1986 := (Nat.succ_mul i 1986).symm
    have hic : i * 1986 ≤ 12 * 1986 := Nat.mul_le_mul_right _ (by omega)
    clear hy hr haty hyc hyR hrc hrR
    go_wp2_with fail
    refine wp_region_puts [⟨13, g5, 50, PP.frQdS (q i + y * r) ((i + 1) * 1986 + 1)⟩] [PP.val (.agg #[.bool rb, .slice r1 m1 d1, .slice r2 m2' d2]), PP.val (.slice (some ⟨gy, offy, none⟩) n capy), PP.val (.int .i64 (i : Int)), PP.val (.pointer (some ⟨gy, offy + i * 3, none⟩)), PP.val (.agg #[.bool yb, .slice ya1 yn1 yc1, .slice ya2 yn2 yc2]), PP.frQd y, PP.val (.slice (some ⟨gr, offr, none⟩) n capr), PP.val (.int .i64 (i : Int)), PP.val (.pointer (some ⟨gr, offr + i * 3, none⟩)), PP.val (.agg #[.bool rrb, .slice ra1 rn1 rc1, .slice ra2 rn2 rc2]), PP.frQd r, PP.frQdS (y * r) 1985, PP.frQdS (q i + y * r) ((i + 1) * 1986 + 1), PP.any] [] [13, 12, 11, 10, 9, 8, 7, 6, 5, 4, 3, 2, 1, 0]
     (by kernel_rfl) (by kernel_rfl) (fun f => (by simp only [fillR, fillL, List.setIfInBounds_toArray, List.set_cons_succ, List.set_cons_zero, Nat.reduceAdd]; rfl)) ?_ ?_ ?_ ?_ ?_
    ·intro x hx; simp only [List.mem_singleton] at hx; subst hx; exact ⟨by show g5 < wr.heap.size; omega, rfl⟩
    ·intro x hx; simp only [List.mem_singleton] at hx; subst hx; rfl
    ·intro x hx y hy h; simp only [List.mem_singleton] at hx hy; subst hx hy; exact absurd rfl h
    ·refine ⟨?o0, ?o1, ?o2, ?o3, ?o4, ?o5, ?o6, ?o7, ?o8, ?o9, ?o10, ?o11, ?o12, ?o13, trivial⟩
     case o0 =>
      intro f wq hG hp hl
      have hE : Ext wr wq := hG
      have hS := hE.size
      change OpGoal _ _ _ f wq Ext _
      exact og_load (P := Tryz.prog) _ _ g5 _ _ _ rfl rfl rfl (hbx.ext hE) Tryz.underlying50 rfl (by kernel_rfl) rfl
     case o1 =>
      intro f wq hG hp hl
      have hE : Ext wr wq := hG
      have hS := hE.size
      simp only [OpGoal]
      go_simp
      exact ⟨_, rfl, Ext.refl _, rfl⟩
     case o2 =>
      intro f wq hG hp hl
      have hE : Ext wr wq := hG
      have hS := hE.size
      simp only [OpGoal]
      go_simp
      exact ⟨_, rfl, Ext.refl _, rfl⟩
     case o3 =>
      intro f wq hG hp hl
      have hE : Ext wr wq := hG
      have hS := hE.size
      have q48 : f 1 = .slice (some ⟨gy, offy, none⟩) n capy := tellV hp 0 1 rfl rfl (fun h => by cases h)
      have q49 : f 2 = .int .i64 (i : Int) := tellV hp 1 2 rfl rfl (fun h => by cases h)
      simp only [OpGoal]
      go_simp
      exact ⟨_, rfl, Ext.refl _, rfl⟩
     case o4 =>
      intro f wq hG hp hl
      have hE : Ext wr wq := hG
      have hS := hE.size
      have q50 : f 3 = .pointer (some ⟨gy, offy + i * 3, none⟩) := tellV hp 0 3 rfl rfl (fun h => by cases h)
      change OpGoal _ _ _ f wq Ext _
      exact og_loadAt (P := Tryz.prog) _ _ gy (offy + i * 3) _ _ rfl rfl q50 (fun j v h => HYC.out.1 _ (E9r.trans hE) j v h) Tryz.underlying58 rfl (by kernel_rfl) rfl
     case o5 =>
      intro f wq hG hp hl
      have hE : Ext wr wq := hG
      have hS := hE.size
      have q51 : f 4 = .agg #[.bool yb, .slice ya1 yn1 yc1, .slice ya2 yn2 yc2] := tellV hp 0 4 rfl rfl (fun h => by cases h)
      change OpGoal _ _ _ f wq Ext _
      refine og_call (P := Tryz.prog) _ _ _ #[f 4] Tryz.func30 (by kernel_rfl) (by kernel_rfl) rfl rfl (by kernel_rfl) ?_
      rw [q51]
      refine (rqofR_calls _ y 6 _ (HYC.out.2.ext (E9r.trans hE)) (by omega)).mono ?_
      rintro e w' ⟨v', rfl, h1, h2⟩
      exact ⟨v', rfl, h2, h1.mono hS⟩
     case o6 =>
      intro f wq hG hp hl
      have hE : Ext wr wq := hG
      have hS := hE.size
      simp only [OpGoal]
      go_simp
      exact ⟨_, rfl, Ext.refl _, rfl⟩
     case o7 =>
      intro f wq hG hp hl
      have hE : Ext wr wq := hG
      have hS := hE.size
      simp only [OpGoal]
      go_simp
      exact ⟨_, rfl, Ext.refl _, rfl⟩
     case o8 =>
      intro f wq hG hp hl
      have hE : Ext wr wq := hG
      have hS := hE.size
      have q53 : f 6 = .slice (some ⟨gr, offr, none⟩) n capr := tellV hp 0 6 rfl rfl (fun h => by cases h)
      have q54 : f 7 = .int .i64 (i : Int) := tellV hp 1 7 rfl rfl (fun h => by cases h)
      simp only [OpGoal]
      go_simp
      exact ⟨_, rfl, Ext.refl _, rfl⟩
     case o9 =>
      intro f wq hG hp hl
      have hE : Ext wr wq := hG
      have hS := hE.size
      have q55 : f 8 = .pointer (some ⟨gr, offr + i * 3, none⟩) := tellV hp 0 8 rfl rfl (fun h => by cases h)
      change OpGoal _ _ _ f wq Ext _
      exact og_loadAt (P := Tryz.prog) _ _ gr (offr + i * 3) _ _ rfl rfl q55 (fun j v h => HRC.out.1 _ (E6r.trans hE) j v h) Tryz.underlying58 rfl (by kernel_rfl) rfl
     case o10 =>
      intro f wq hG hp hl
      have hE : Ext wr wq := hG
      have hS := hE.size
      have q56 : f 9 = .agg #[.bool rrb, .slice ra1 rn1 rc1, .slice ra2 rn2 rc2] := tellV hp 0 9 rfl rfl (fun h => by cases h)
      change OpGoal _ _ _ f wq Ext _
      refine og_call (P := Tryz.prog) _ _ _ #[f 9] Tryz.func30 (by kernel_rfl) (by kernel_rfl) rfl rfl (by kernel_rfl) ?_
      rw [q56]
      refine (rqofR_calls _ r 391 _ (HRC.out.2.ext (E6r.trans hE)) (by omega)).mono ?_
      rintro e w' ⟨v', rfl, h1, h2⟩
      exact ⟨v', rfl, h2, h1.mono hS⟩
     case o11 =>
      intro f wq hG hp hl
      have hE : Ext wr wq := hG
      have hS := hE.size
      have q52 := tellV hp 0 5 rfl rfl (fun _ => hE)
      have q57 := tellV hp 1 10 rfl rfl (fun _ => hE)
      change OpGoal _ _ _ f wq Ext _
      refine og_call (P := Tryz.prog) _ _ _ #[f 5, f 10] Tryz.func29 (by kernel_rfl) (by kernel_rfl) rfl rfl (by kernel_rfl) ?_
      refine (rqmul3_calls _ _ y r (5 * 6) (5 * 391) _ q52.cq q57.cq (szD_of HYC.out.2.sz) (szD_of HRC.out.2.sz) (by omega)).mono ?_
      rintro e w' ⟨v', rfl, h1, h3, h2⟩
      exact ⟨v', rfl, h2, h1.mono hS, h3⟩
     case o12 =>
      intro f wq hG hp hl
      have hE : Ext wr wq := hG
      have hS := hE.size
      have q47 : f 0 = .agg #[.bool rb, .slice r1 m1 d1, .slice r2 m2' d2] := tellV hp 0 0 rfl rfl (fun h => by cases h)
      have q58 := tellV hp 1 11 rfl rfl (fun _ => hE)
      change OpGoal _ _ _ f wq Ext _
      refine og_call (P := Tryz.prog) _ _ _ #[f 0, f 11] Tryz.func28 (by kernel_rfl) (by kernel_rfl) rfl rfl (by kernel_rfl) ?_
      rw [q47]
      refine (rqadd3_calls _ _ (q i) (y * r) (i * 1986 + 1) 1985 _ (HQ.out.ext hE).cq q58.1.cq HSZ.out q58.2 (by omega)).mono ?_
      rintro e w' ⟨v', rfl, h1, h3, h2⟩
      exact ⟨v', rfl, h2, h1.mono hS, by omega⟩
     case o13 =>
      intro f wq hG hp hl
      have hE : Ext wr wq := hG
      have hS := hE.size
      have q59 := tellV hp 0 12 rfl rfl (fun _ => hE)
      intro hg0
      change OpGoal _ _ _ f wq (Chg _) _
      obtain ⟨⟨s', t', hv, hn, hm⟩, hsz⟩ := q59
      exact og_store (P := Tryz.prog) _ _ _ g5 _ _ _ (PP.frQdS _ _ : PP _).p rfl rfl rfl hv (show Bx 50 wq _ _ from hg0.trans hbx) (by kernel_rfl) rfl (all3 rfl hn.oneCell hm.oneCell) (fun w' h => ⟨⟨s', t', rfl, hn.chg h (by omega), hm.chg h (by omega)⟩, hsz⟩)
    ·intro f wq hG hp
     obtain ⟨cs0, hbx0, hz0⟩ : ∃ cs, Bx 50 wq g5 cs ∧ (PP.frQdS (q i + y * r) ((i + 1) * 1986 + 1) : PP wr.heap.size).p (.agg cs) wq := endS hp 13 (by decide)
     clear hp
     obtain ⟨hz1, hz2⟩ := hz0
     obtain ⟨b6, a6, l6, cap6, a7', l7', cap7', hvv, hz1⟩ := hz1.opn
     cases hvv
     have Hq6 := Lib.hid hz1
     have Z6 := Lib.hid hz2
     have hsz6 := hE0.size
     have E6' : Ext w9 wq := hE0.stepS hG (by simp; omega)
     clear hz1 hz2
     go_wp2
     go_roundw
     case rel =>
      refine ⟨i + 1, by omega, congrArg (Value.int .i64) (by omega), Lib.hid ⟨E6', _, _, _, _, _, _, _, hbx0, ?_, ?_⟩⟩
      ·rw [HQS1.out]
       exact Hq6.out.mono hsz6
      ·rw [HQS1.out]
       exact Z6.out
     case measure => simp [intOf]; omega
 ·have hyn' : ¬ (n : Int) < (ny : Int) := by omega
  obtain ⟨k0, hk0⟩ : ∃ k0, k0 = ny := ⟨_, rfl⟩
  obtain ⟨Z, hZ⟩ : ∃ Z, Z = Y := ⟨_, rfl⟩
  have hkn : k0 ≤ n := by omega
  have HZL : Hid (Z.length = k0) := Lib.hid (by rw [hZ, HYN.out, hk0])
  have HZQ : Hid (∀ w', Ext w w' → QL 6 w' (.slice ady k0 capy) Z) := Lib.hid fun w' he => by
   rw [hZ, hk0]
   exact TM.out.2.2 (HZ.out.ext he)
  rw [← hk0] at hyn' HZ ⊢
  clear hZ hk0
  obtain ⟨q, hq⟩ : ∃ q : Nat → Rat, q = fun i => sumN (fun j => Z.getD j 0 * (timesM M X).getD j 0) i := ⟨_, rfl⟩
  have hqs : ∀ (i : Nat) (y r : Rat), Z[i]? = some y → (timesM M X)[i]? = some r → q (i + 1) = q i + y * r := fun i y r hy hr => by
   rw [hq]
   show sumN _ i + Z.getD i 0 * (timesM M X).getD i 0 = _
   rw [List.getD_eq_getElem?_getD, hy, List.getD_eq_getElem?_getD, hr]
   rfl
  have hqn : dotV (mkV (catN Z M (min Z.length M.length))) X = q k0 := by
   rw [show min Z.length M.length = k0 by rw [HZL.out, HMN.out]; omega, dot_cat, hq]
   refine sumN_congr fun j hj => ?_
   congr 1
   rw [List.getD_eq_getElem?_getD, List.getD_eq_getElem?_getD]
   unfold timesM
   have hjm : j < M.length := by rw [HMN.out]; omega
   rw [List.getElem?_map, List.getElem?_eq_getElem hjm]
   rfl
  have hq0 : q 0 = 0 := by rw [hq]; rfl
  have HQS := Lib.hid hqs
  have HQN := Lib.hid hqn
  have HQ0 := Lib.hid hq0
  have hzs : szQ (q k0) ≤ 4777 := by
   rw [hq]
   have h1 := sz_sumN (k := 397) (f := fun j => Z.getD j 0 * (timesM M X).getD j 0) k0 fun j hj => by
    have hy : szQ (Z.getD j 0) ≤ 6 := getD_all (p := fun q => szQ q ≤ 6) ((HZQ.out w (Ext.refl w)).szs) (by decide +kernel) j
    have hr : szQ ((timesM M X).getD j 0) ≤ 391 := getD_all (p := fun q => szQ q ≤ 391) HQR.out (by decide +kernel) j
    exact szQ_mul hy hr
   have h2 : k0 * (397 + 1) ≤ 12 * (397 + 1) := Nat.mul_le_mul_right _ (by omega)
   show szQ (sumN _ k0) ≤ _
   omega
  have HZS := Lib.hid hzs
  clear hq hqs hqn hq0 hzs
  go_wp2_with fail
  refine (timesT_calls 6 6 30 12 _ _ Z M w6 (HZQ.out w6 E6) (TM.out.1 (HV.out.ext E6)) HML.out (by rw [HMN.out]; omega) (by omega) (by omega)).mono ?_
  rintro e w7 ⟨v7, rfl, r7, e7⟩
  obtain ⟨a7, k7, hv7⟩ := r7.val
  obtain ⟨w8, hw8, e8, bx8, s8⟩ := alloc1 w7 #[v7] 40
  have M8 : ML 4681 w8 (.slice (some ⟨w7.heap.size, 0, none⟩) 1 1) [mkV (catN Z M (min Z.length M.length))] := (mo_new (B := 0) (k := 4681) (N := 1) [v7] [mkV (catN Z M (min Z.length M.length))] bx8 rfl rfl (Nat.zero_le _) (by omega) (fun i u y hu hy => by
   match i, hu, hy with
   | 0, hu, hy => cases hu; cases hy; exact (r7.ext e8).mono (Nat.zero_le _)
   | i + 1, hu, hy => simp at hu)).ml (by omega)
  have hl8 : ∀ r ∈ [mkV (catN Z M (min Z.length M.length))], r.length ≤ 360 := fun r hr => by
   rw [List.mem_singleton] at hr
   subst hr
   have h1 := mkV_len (catN Z M (min Z.length M.length))
   have h2 : (catN Z M (min Z.length M.length)).length ≤ min Z.length M.length * 30 := catN_len HML.out _
   have h3 : min Z.length M.length ≤ 12 := by rw [HMN.out]; omega
   omega
  have E8 := (E6.trans e7).trans e8
  have HM8 := Lib.hid (And.intro M8 hl8)
  clear r7 bx8 s8 M8 hl8
  rw [hv7] at hw8 ⊢
  clear hv7
  go_wp2_with fail
  rw [← hw8]
  refine (times_calls 4681 6 360 _ _ _ X w8 HM8.out.1 (TM.out.2.1 (HU.out.ext E8)) HM8.out.2 (by simp) (by omega)).mono ?_
  rintro e w9 ⟨v9, rfl, r9, e9⟩
  have hT9 : timesM [mkV (catN Z M (min Z.length M.length))] X = [q k0] := by rw [← HQN.out]; rfl
  rw [hT9] at r9
  have q9 := OL.ql (k := 4777) (OL.imp (R' := FrK w8.heap.size 4777) r9 fun u y hy hR => ⟨hR.1, by rw [List.mem_singleton] at hy; rw [hy]; exact HZS.out⟩) (by omega)
  obtain ⟨adl, nl, capl, hnl, rfl, -, hatl⟩ := q9.at
  have hnl1 : nl = 1 := hnl
  subst hnl1
  obtain ⟨gl, offl, rfl, lb, la1, ln1, lc1, la2, ln2, lc2, hlc, hlR⟩ := hatl 0 (q k0) rfl
  have HLC := Lib.hid (And.intro hlc hlR)
  have E9 := E8.trans e9
  have e69 := (e7.trans e8).trans e9
  clear r9 q9 hT9 hnl hatl hlc hlR HM8 hw8 e7 e8 e9 E8
  go_wp2_with fail
  refine (rqsmall3_calls 0 _ (by omega) (by omega)).mono ?_
  rintro e w10 ⟨v10, rfl, q10, e10⟩
  obtain ⟨b10, a10, l10, k10, a10', l10', k10', rfl, q10⟩ := q10.opn
  have Q10 := Lib.hid q10
  obtain ⟨w11, hw11, e11, b11, s11⟩ := alloc1 w10 #[.bool b10, .slice a10 l10 k10, .slice a10' l10' k10'] 50
  have hs9 := e10.size
  have HJ0 : Hid (DtJ w9 w11 w10.heap.size (0 * 1986 + 1) (q 0)) := Lib.hid ⟨e10.trans e11, _, _, _, _, _, _, _, b11, by rw [HQ0.out]; exact (Q10.out.ext e11), by rw [HQ0.out]; have : szD 0 ≤ 1 := (by decide); rw [Nat.zero_mul]; exact this⟩
  clear q10 Q10
  go_wp2_with fail
  rw [← hw11]
  obtain ⟨g5, hg5⟩ : ∃ g5, g5 = w10.heap.size := ⟨_, rfl⟩
  rw [← hg5] at HJ0 hs9 ⊢
  clear hw11 hg5 e10 e11 b11 s11
  go_loopw [44] (fun s44 wr => ∃ i : Nat, i ≤ k0 ∧ s44 = .int .i64 (i : Int) ∧ Hid (DtJ w9 wr g5 (i * 1986 + 1) (q i))) (fun s44 _ => ((k0 : Int) - intOf s44).toNat)
  case atStart => exact ⟨0, Nat.zero_le _, rfl, HJ0⟩
  case round =>
   obtain ⟨i, hi, rfl, hH⟩ := hrel
   obtain ⟨hE0, rb, r1, m1, d1, r2, m2', d2, hbx, hq, hsz⟩ := hH.out
   have HQ := Lib.hid hq
   have HSZ := Lib.hid hsz
   have h5g : g5 < wr.heap.size := hbx.lt
   have E9r := E9.trans hE0
   clear hq hsz hH HJ0
   rcases Nat.eq_or_lt_of_le hi with hin | hin
   ·have hlt : ¬ ((i : Int) < (k0 : Int)) := by omega
    have HQF : Hid (FrQd w9.heap.size wr (.agg #[.bool rb, .slice r1 m1 d1, .slice r2 m2' d2]) (q k0) ∧ szD (q k0) ≤ 23833) := Lib.hid ⟨by rw [← hin]; exact HQ.out, by rw [← hin]; have := HSZ.out; have h3 : i * 1986 ≤ 12 * 1986 := Nat.mul_le_mul_right _ (by omega); omega⟩
    obtain ⟨s, hs⟩ : ∃ s, s = decide ((sideP M n).map fmV = (sideQ M n).map fmV) := ⟨_, rfl⟩
    have HSS := Lib.hid hs
    clear hs HQ HSZ
    go_wp2_with fail
    cases s with
    | true =>
     refine wp_region_puts [] [PP.val (.slice (some ⟨gl, offl, none⟩) 1 capl), PP.val (.int .i64 1), PP.val (.bool true), PP.val (.bool true), PP.val (.slice (some ⟨gl, offl, none⟩) 1 capl), PP.val (.pointer (some ⟨gl, offl, none⟩)), PP.val (.agg #[.bool lb, .slice la1 ln1 lc1, .slice la2 ln2 lc2]), PP.frQd (q k0), PP.val (.agg #[.bool rb, .slice r1 m1 d1, .slice r2 m2' d2]), PP.val (.int .i64 0), PP.val (.bool true), PP.val (.bool true), PP.val (.bool true), PP.val (.slice ad n cap), PP.val (.int .i64 (n : Int)), PP.mO 1 (unitM n), PP.val (.slice ad n cap), PP.mO 271 (sideP M n), PP.val (.slice ad n cap), PP.val (.int .i64 (n : Int)), PP.mO 1 (unitM n), PP.val (.slice ad n cap), PP.mO 271 (sideP M n), PP.mO 1 (unitM 60), PP.mO 244861 (sideQ M n), PP.val (.bool true), PP.val (.bool true), PP.val (.bool true), PP.any, PP.any, PP.any, PP.val (.bool true), PP.val (.bool true)] [] [0, 1, 2, 3, 4, 5, 6, 7, 8, 9, 10, 11, 12, 13, 14, 15, 16, 17, 18, 19, 20, 21, 22, 23, 24, 25, 26, 27, 28, 29, 30, 31, 32]
      (by kernel_rfl) (by kernel_rfl) (fun f => (by simp only [fillR, fillL, List.setIfInBounds_toArray, List.set_cons_succ, List.set_cons_zero, Nat.reduceAdd]; rfl)) ?_ ?_ ?_ ?_ ?_
     ·intro x hx; cases hx
     ·intro x hx; cases hx
     ·intro x hx; cases hx
     ·refine ⟨?o0, ?o1, ?o2, ?o3, ?o4, ?o5, ?o6, ?o7, ?o8, ?o9, ?o10, ?o11, ?o12, ?o13, ?o14, ?o15, ?o16, ?o17, ?o18, ?o19, ?o20, ?o21, ?o22, ?o23, ?o24, ?o25, ?o26, ?o27, ?o28, ?o29, ?o30, ?o31, ?o32, trivial⟩
      case o0 =>
       intro f wq hG hp hl
       have hE : Ext wr wq := hG
       have hS := hE.size
       simp only [OpGoal]
       go_simp
       exact ⟨_, rfl, Ext.refl _, rfl⟩
      case o1 =>
       intro f wq hG hp hl
       have hE : Ext wr wq := hG
       have hS := hE.size
       have q61 : f 0 = .slice (some ⟨gl, offl, none⟩) 1 capl := tellV hp 0 0 rfl rfl (fun h => by cases h)
       simp only [OpGoal]
       go_simp
       exact ⟨_, rfl, Ext.refl _, rfl⟩
      case o2 =>
       intro f wq hG hp hl
       have hE : Ext wr wq := hG
       have hS := hE.size
       have q62 : f 1 = .int .i64 1 := tellV hp 0 1 rfl rfl (fun h => by cases h)
       simp only [OpGoal]
       go_simp
       exact ⟨_, rfl, Ext.refl _, rfl⟩
      case o3 =>
       intro f wq hG hp hl
       have hE : Ext wr wq := hG
       have hS := hE.size
       have q63 : f 2 = .bool true := tellV hp 0 2 rfl rfl (fun h => by cases h)
       simp only [OpGoal]
       go_simp
       exact ⟨_, rfl, Ext.refl _, rfl⟩
      case o4 =>
       intro f wq hG hp hl
       have hE : Ext wr wq := hG
       have hS := hE.size
       have qg : f 3 = .bool true := tellV hp 0 3 rfl rfl (fun h => by cases h)
       change OpGoal _ _ _ f wq Ext _
       refine og_guard (j := 3) (want := true) rfl qg ?_
       simp only [OpGoal]
       go_simp
       exact ⟨_, rfl, Ext.refl _, rfl⟩
      case o5 =>
       intro f wq hG hp hl
       have hE : Ext wr wq := hG
       have hS := hE.size
       have q65 : f 4 = .slice (some ⟨gl, offl, none⟩) 1 capl := tellV hp 0 4 rfl rfl (fun h => by cases h)
       have qg : f 3 = .bool true := tellV hp 1 3 rfl rfl (fun h => by cases h)
       change OpGoal _ _ _ f wq Ext _
       refine og_guard (j := 3) (want := true) rfl qg ?_
       simp only [OpGoal]
       go_simp
       exact ⟨_, rfl, Ext.refl _, rfl⟩
      case o6 =>
       intro f wq hG hp hl
       have hE : Ext wr wq := hG
       have hS := hE.size
       have q66 : f 5 = .pointer (some ⟨gl, offl, none⟩) := tellV hp 0 5 rfl rfl (fun h => by cases h)
       have qg : f 3 = .bool true := tellV hp 1 3 rfl rfl (fun h => by cases h)
       change OpGoal _ _ _ f wq Ext _
       refine og_guard (j := 3) (want := true) rfl qg ?_
       change OpGoal _ _ _ f wq Ext _
       exact og_loadAt (P := Tryz.prog) _ _ gl offl _ _ rfl rfl q66 (fun j v h => by have := HLC.out.1 _ (hE0.trans hE) j v h; simpa using this) Tryz.underlying58 rfl (by kernel_rfl) rfl
      case o7 =>
       intro f wq hG hp hl
       have hE : Ext wr wq := hG
       have hS := hE.size
       have q67 : f 6 = .agg #[.bool lb, .slice la1 ln1 lc1, .slice la2 ln2 lc2] := tellV hp 0 6 rfl rfl (fun h => by cases h)
       have qg : f 3 = .bool true := tellV hp 1 3 rfl rfl (fun h => by cases h)
       change OpGoal _ _ _ f wq Ext _
       refine og_guard (j := 3) (want := true) rfl qg ?_
       change OpGoal _ _ _ f wq Ext _
       refine og_call (P := Tryz.prog) _ _ _ #[f 6] Tryz.func30 (by kernel_rfl) (by kernel_rfl) rfl rfl (by kernel_rfl) ?_
       rw [q67]
       refine (rqofR_calls _ (q k0) 4777 _ (HLC.out.2.ext (hE0.trans hE)) (by omega)).mono ?_
       rintro e w' ⟨v', rfl, h1, h2⟩
       exact ⟨v', rfl, h2, h1.mono hS⟩
      case o8 =>
       intro f wq hG hp hl
       have hE : Ext wr wq := hG
       have hS := hE.size
       have qg : f 3 = .bool true := tellV hp 0 3 rfl rfl (fun h => by cases h)
       change OpGoal _ _ _ f wq Ext _
       refine og_guard (j := 3) (want := true) rfl qg ?_
       change OpGoal _ _ _ f wq Ext _
       exact og_load (P := Tryz.prog) _ _ g5 _ _ _ rfl rfl rfl (hbx.ext hE) Tryz.underlying50 rfl (by kernel_rfl) rfl
      case o9 =>
       intro f wq hG hp hl
       have hE : Ext wr wq := hG
       have hS := hE.size
       have q68 := tellV hp 0 7 rfl rfl (fun _ => hE)
       have q69 : f 8 = .agg #[.bool rb, .slice r1 m1 d1, .slice r2 m2' d2] := tellV hp 1 8 rfl rfl (fun h => by cases h)
       have qg : f 3 = .bool true := tellV hp 3 3 rfl rfl (fun h => by cases h)
       change OpGoal _ _ _ f wq Ext _
       refine og_guard (j := 3) (want := true) rfl qg ?_
       change OpGoal _ _ _ f wq Ext _
       refine og_call (P := Tryz.prog) _ _ _ #[f 7, f 8] Tryz.func31 (by kernel_rfl) (by kernel_rfl) rfl rfl (by kernel_rfl) ?_
       rw [q69]
       refine (rqcmp3_calls _ _ (q k0) (q k0) (5 * 4777) 23833 _ q68.cq (HQF.out.1.ext hE).cq (szD_of HLC.out.2.sz) HQF.out.2 (by omega)).mono ?_
       rintro e w' ⟨rfl, h2⟩
       exact ⟨_, rfl, h2, congrArg (Value.int .i64) (cmpR_self _)⟩
      case o10 =>
       intro f wq hG hp hl
       have hE : Ext wr wq := hG
       have hS := hE.size
       have q70 : f 9 = .int .i64 0 := tellV hp 0 9 rfl rfl (fun h => by cases h)
       have qg : f 3 = .bool true := tellV hp 1 3 rfl rfl (fun h => by cases h)
       change OpGoal _ _ _ f wq Ext _
       refine og_guard (j := 3) (want := true) rfl qg ?_
       simp only [OpGoal]
       go_simp
       exact ⟨_, rfl, Ext.refl _, rfl⟩
      case o11 =>
       intro f wq hG hp hl
       have hE : Ext wr wq := hG
       have hS := hE.size
       have q64 : f 3 = .bool true := tellV hp 0 3 rfl rfl (fun h => by cases h)
       have q71 : f 10 = .bool true := tellV hp 1 10 rfl rfl (fun h => by cases h)
       simp only [OpGoal]
       go_simp
       exact ⟨_, rfl, Ext.refl _, rfl⟩
      case o12 =>
       intro f wq hG hp hl
       have hE : Ext wr wq := hG
       have hS := hE.size
       have q72 : f 11 = .bool true := tellV hp 0 11 rfl rfl (fun h => by cases h)
       simp only [OpGoal]
       go_simp
       exact ⟨_, rfl, Ext.refl _, rfl⟩
      case o13 =>
       intro f wq hG hp hl
       have hE : Ext wr wq := hG
       have hS := hE.size
       have qg : f 12 = .bool true := tellV hp 0 12 rfl rfl (fun h => by cases h)
       change OpGoal _ _ _ f wq Ext _
       refine og_guard (j := 12) (want := true) rfl qg ?_
       simp only [OpGoal]
       go_simp
       exact ⟨_, rfl, Ext.refl _, rfl⟩
      case o14 =>
       intro f wq hG hp hl
       have hE : Ext wr wq := hG
       have hS := hE.size
       have q74 : f 13 = .slice ad n cap := tellV hp 0 13 rfl rfl (fun h => by cases h)
       have qg : f 12 = .bool true := tellV hp 1 12 rfl rfl (fun h => by cases h)
       change OpGoal _ _ _ f wq Ext _
       refine og_guard (j := 12) (want := true) rfl qg ?_
       simp only [OpGoal]
       go_simp
       exact ⟨_, rfl, Ext.refl _, rfl⟩
      case o15 =>
       intro f wq hG hp hl
       have hE : Ext wr wq := hG
       have hS := hE.size
       have q75 : f 14 = .int .i64 (n : Int) := tellV hp 0 14 rfl rfl (fun h => by cases h)
       have qg : f 12 = .bool true := tellV hp 1 12 rfl rfl (fun h => by cases h)
       change OpGoal _ _ _ f wq Ext _
       refine og_guard (j := 12) (want := true) rfl qg ?_
       change OpGoal _ _ _ f wq Ext _
       refine og_call (P := Tryz.prog) _ _ _ #[f 14] Tryz.func16 (by kernel_rfl) (by kernel_rfl) rfl rfl (by kernel_rfl) ?_
       rw [q75]
       refine (unit_calls n _ (by omega)).mono ?_
       rintro e w' ⟨v', rfl, h1, h2⟩
       exact ⟨v', rfl, h2, h1.mono hS (by omega)⟩
      case o16 =>
       intro f wq hG hp hl
       have hE : Ext wr wq := hG
       have hS := hE.size
       have qg : f 12 = .bool true := tellV hp 0 12 rfl rfl (fun h => by cases h)
       change OpGoal _ _ _ f wq Ext _
       refine og_guard (j := 12) (want := true) rfl qg ?_
       simp only [OpGoal]
       go_simp
       exact ⟨_, rfl, Ext.refl _, rfl⟩
      case o17 =>
       intro f wq hG hp hl
       have hE : Ext wr wq := hG
       have hS := hE.size
       have q76 := tellV hp 0 15 rfl rfl (fun _ => hE)
       have q77 : f 16 = .slice ad n cap := tellV hp 1 16 rfl rfl (fun h => by cases h)
       have qg : f 12 = .bool true := tellV hp 3 12 rfl rfl (fun h => by cases h)
       change OpGoal _ _ _ f wq Ext _
       refine og_guard (j := 12) (want := true) rfl qg ?_
       change OpGoal _ _ _ f wq Ext _
       refine og_call (P := Tryz.prog) _ _ _ #[f 15, f 16] Tryz.func26 (by kernel_rfl) (by kernel_rfl) rfl rfl (by kernel_rfl) ?_
       rw [q77]
       refine (product_calls 1 6 1 30 _ _ (unitM n) M _ (q76.ml (by omega)) (TM.out.1 (HV.out.ext (E9r.trans hE))) (unitM_one n) HML.out (by rw [unitM_len]; omega) (by omega) (by omega) (by omega) (by omega)).mono ?_
       rintro e w' ⟨v', rfl, h1, h2⟩
       exact ⟨v', rfl, h2, h1.mono hS (by omega)⟩
      case o18 =>
       intro f wq hG hp hl
       have hE : Ext wr wq := hG
       have hS := hE.size
       have qg : f 12 = .bool true := tellV hp 0 12 rfl rfl (fun h => by cases h)
       change OpGoal _ _ _ f wq Ext _
       refine og_guard (j := 12) (want := true) rfl qg ?_
       simp only [OpGoal]
       go_simp
       exact ⟨_, rfl, Ext.refl _, rfl⟩
      case o19 =>
       intro f wq hG hp hl
       have hE : Ext wr wq := hG
       have hS := hE.size
       have q79 : f 18 = .slice ad n cap := tellV hp 0 18 rfl rfl (fun h => by cases h)
       have qg : f 12 = .bool true := tellV hp 1 12 rfl rfl (fun h => by cases h)
       change OpGoal _ _ _ f wq Ext _
       refine og_guard (j := 12) (want := true) rfl qg ?_
       simp only [OpGoal]
       go_simp
       exact ⟨_, rfl, Ext.refl _, rfl⟩
      case o20 =>
       intro f wq hG hp hl
       have hE : Ext wr wq := hG
       have hS := hE.size
       have q80 : f 19 = .int .i64 (n : Int) := tellV hp 0 19 rfl rfl (fun h => by cases h)
       have qg : f 12 = .bool true := tellV hp 2 12 rfl rfl (fun h => by cases h)
       change OpGoal _ _ _ f wq Ext _
       refine og_guard (j := 12) (want := true) rfl qg ?_
       change OpGoal _ _ _ f wq Ext _
       refine og_call (P := Tryz.prog) _ _ _ #[f 19] Tryz.func16 (by kernel_rfl) (by kernel_rfl) rfl rfl (by kernel_rfl) ?_
       rw [q80]
       refine (unit_calls n _ (by omega)).mono ?_
       rintro e w' ⟨v', rfl, h1, h2⟩
       exact ⟨v', rfl, h2, h1.mono hS (by omega)⟩
      case o21 =>
       intro f wq hG hp hl
       have hE : Ext wr wq := hG
       have hS := hE.size
       have qg : f 12 = .bool true := tellV hp 0 12 rfl rfl (fun h => by cases h)
       change OpGoal _ _ _ f wq Ext _
       refine og_guard (j := 12) (want := true) rfl qg ?_
       simp only [OpGoal]
       go_simp
       exact ⟨_, rfl, Ext.refl _, rfl⟩
      case o22 =>
       intro f wq hG hp hl
       have hE : Ext wr wq := hG
       have hS := hE.size
       have q81 := tellV hp 0 20 rfl rfl (fun _ => hE)
       have q82 : f 21 = .slice ad n cap := tellV hp 1 21 rfl rfl (fun h => by cases h)
       have qg : f 12 = .bool true := tellV hp 3 12 rfl rfl (fun h => by cases h)
       change OpGoal _ _ _ f wq Ext _
       refine og_guard (j := 12) (want := true) rfl qg ?_
       change OpGoal _ _ _ f wq Ext _
       refine og_call (P := Tryz.prog) _ _ _ #[f 20, f 21] Tryz.func26 (by kernel_rfl) (by kernel_rfl) rfl rfl (by kernel_rfl) ?_
       rw [q82]
       refine (product_calls 1 6 1 30 _ _ (unitM n) M _ (q81.ml (by omega)) (TM.out.1 (HV.out.ext (E9r.trans hE))) (unitM_one n) HML.out (by rw [unitM_len]; omega) (by omega) (by omega) (by omega) (by omega)).mono ?_
       rintro e w' ⟨v', rfl, h1, h2⟩
       exact ⟨v', rfl, h2, h1.mono hS (by omega)⟩
      case o23 =>
       intro f wq hG hp hl
       have hE : Ext wr wq := hG
       have hS := hE.size
       have qg : f 12 = .bool true := tellV hp 1 12 rfl rfl (fun h => by cases h)
       change OpGoal _ _ _ f wq Ext _
       refine og_guard (j := 12) (want := true) rfl qg ?_
       change OpGoal _ _ _ f wq Ext _
       refine og_call (P := Tryz.prog) _ _ _ #[.int .i64 60] Tryz.func16 (by kernel_rfl) (by kernel_rfl) rfl rfl (by kernel_rfl) ?_
       refine (unit_calls 60 _ (by omega)).mono ?_
       rintro e w' ⟨v', rfl, h1, h2⟩
       exact ⟨v', rfl, h2, h1.mono hS (by omega)⟩
      case o24 =>
       intro f wq hG hp hl
       have hE : Ext wr wq := hG
       have hS := hE.size
       have q83 := tellV hp 0 22 rfl rfl (fun _ => hE)
       have q84 := tellV hp 1 23 rfl rfl (fun _ => hE)
       have qg : f 12 = .bool true := tellV hp 3 12 rfl rfl (fun h => by cases h)
       change OpGoal _ _ _ f wq Ext _
       refine og_guard (j := 12) (want := true) rfl qg ?_
       change OpGoal _ _ _ f wq Ext _
       refine og_call (P := Tryz.prog) _ _ _ #[f 22, f 23] Tryz.func26 (by kernel_rfl) (by kernel_rfl) rfl rfl (by kernel_rfl) ?_
       refine (product_calls 271 1 30 1 _ _ (sideP M n) (unitM 60) _ (q83.ml (by omega)) (q84.ml (by omega)) (sideP_len HML.out) (unitM_one 60) (by unfold sideP; rw [List.length_map, unitM_len]; omega) (by omega) (by omega) (by omega) (by omega)).mono ?_
       rintro e w' ⟨v', rfl, h1, h2⟩
       exact ⟨v', rfl, h2, h1.mono hS (by omega)⟩
      case o25 =>
       intro f wq hG hp hl
       have hE : Ext wr wq := hG
       have hS := hE.size
       have q78 := tellV hp 0 17 rfl rfl (fun _ => hE)
       have q85 := tellV hp 1 24 rfl rfl (fun _ => hE)
       have qg : f 12 = .bool true := tellV hp 3 12 rfl rfl (fun h => by cases h)
       change OpGoal _ _ _ f wq Ext _
       refine og_guard (j := 12) (want := true) rfl qg ?_
       change OpGoal _ _ _ f wq Ext _
       refine og_call (P := Tryz.prog) _ _ _ #[f 17, f 24] Tryz.func13 (by kernel_rfl) (by kernel_rfl) rfl rfl (by kernel_rfl) ?_
       refine (sameM_calls _ _ _ _ _ (q78.mle (by omega)) (q85.mle (by omega))).mono ?_
       rintro e w' ⟨rfl, h2⟩
       exact ⟨_, rfl, h2, congrArg Value.bool HSS.out.symm⟩
      case o26 =>
       intro f wq hG hp hl
       have hE : Ext wr wq := hG
       have hS := hE.size
       have q73 : f 12 = .bool true := tellV hp 0 12 rfl rfl (fun h => by cases h)
       have q86 : f 25 = .bool true := tellV hp 1 25 rfl rfl (fun h => by cases h)
       simp only [OpGoal]
       go_simp
       exact ⟨_, rfl, Ext.refl _, rfl⟩
      case o27 =>
       intro f wq hG hp hl
       have hE : Ext wr wq := hG
       have hS := hE.size
       have q87 : f 26 = .bool true := tellV hp 0 26 rfl rfl (fun h => by cases h)
       simp only [OpGoal]
       go_simp
       exact ⟨_, rfl, Ext.refl _, rfl⟩
      case o28 =>
       intro f wq hG hp hl
       have hE : Ext wr wq := hG
       have hS := hE.size
       have qg : f 27 = .bool true := tellV hp 0 27 rfl rfl (fun h => by cases h)
       exact og_skip rfl qg (by decide) trivial
      case o29 =>
       intro f wq hG hp hl
       have hE : Ext wr wq := hG
       have hS := hE.size
       have qg : f 27 = .bool true := tellV hp 1 27 rfl rfl (fun h => by cases h)
       exact og_skip rfl qg (by decide) trivial
      case o30 =>
       intro f wq hG hp hl
       have hE : Ext wr wq := hG
       have hS := hE.size
       have qg : f 27 = .bool true := tellV hp 1 27 rfl rfl (fun h => by cases h)
       exact og_skip rfl qg (by decide) trivial
      case o31 =>
       intro f wq hG hp hl
       have hE : Ext wr wq := hG
       have hS := hE.size
       have q88 : f 27 = .bool true := tellV hp 0 27 rfl rfl (fun h => by cases h)
       simp only [OpGoal]
       go_simp
       exact ⟨_, rfl, Ext.refl _, rfl⟩
      case o32 =>
       intro f wq hG hp hl
       have hE : Ext wr wq := hG
       have hS := hE.size
       have q92 : f 31 = .bool true := tellV hp 0 31 rfl rfl (fun h => by cases h)
       simp only [OpGoal]
       go_simp
       exact ⟨_, rfl, Ext.refl _, rfl⟩
     ·intro f wq hG hp
      have hE : Ext wr wq := ChgS.nil hG
      have q6 : f 32 = .bool true := endV hp 32 (by decide) rfl (fun h => by cases h)
      try simp only [q6]
      clear hp
      go_wp2
      go_ret
      exact ⟨rfl, E9r.trans hE⟩
    | false =>
     refine wp_region_puts [] [PP.val (.slice (some ⟨gl, offl, none⟩) 1 capl), PP.val (.int .i64 1), PP.val (.bool true), PP.val (.bool true), PP.val (.slice (some ⟨gl, offl, none⟩) 1 capl), PP.val (.pointer (some ⟨gl, offl, none⟩)), PP.val (.agg #[.bool lb, .slice la1 ln1 lc1, .slice la2 ln2 lc2]), PP.frQd (q k0), PP.val (.agg #[.bool rb, .slice r1 m1 d1, .slice r2 m2' d2]), PP.val (.int .i64 0), PP.val (.bool true), PP.val (.bool true), PP.val (.bool true), PP.val (.slice ad n cap), PP.val (.int .i64 (n : Int)), PP.mO 1 (unitM n), PP.val (.slice ad n cap), PP.mO 271 (sideP M n), PP.val (.slice ad n cap), PP.val (.int .i64 (n : Int)), PP.mO 1 (unitM n), PP.val (.slice ad n cap), PP.mO 271 (sideP M n), PP.mO 1 (unitM 60), PP.mO 244861 (sideQ M n), PP.val (.bool false), PP.val (.bool false), PP.val (.bool false), PP.val (.slice ad n cap), PP.pred (fun v => ∃ m : Int, v = .int .i64 m ∧ 60 ≤ m), PP.val (.bool true), PP.val (.bool true), PP.val (.bool true)] [] [0, 1, 2, 3, 4, 5, 6, 7, 8, 9, 10, 11, 12, 13, 14, 15, 16, 17, 18, 19, 20, 21, 22, 23, 24, 25, 26, 27, 28, 29, 30, 31, 32]
      (by kernel_rfl) (by kernel_rfl) (fun f => (by simp only [fillR, fillL, List.setIfInBounds_toArray, List.set_cons_succ, List.set_cons_zero, Nat.reduceAdd]; rfl)) ?_ ?_ ?_ ?_ ?_
     ·intro x hx; cases hx
     ·intro x hx; cases hx
     ·intro x hx; cases hx
     ·refine ⟨?o0, ?o1, ?o2, ?o3, ?o4, ?o5, ?o6, ?o7, ?o8, ?o9, ?o10, ?o11, ?o12, ?o13, ?o14, ?o15, ?o16, ?o17, ?o18, ?o19, ?o20, ?o21, ?o22, ?o23, ?o24, ?o25, ?o26, ?o27, ?o28, ?o29, ?o30, ?o31, ?o32, trivial⟩
      case o0 =>
       intro f wq hG hp hl
       have hE : Ext wr wq := hG
       have hS := hE.size
       simp only [OpGoal]
       go_simp
       exact ⟨_, rfl, Ext.refl _, rfl⟩
      case o1 =>
       intro f wq hG hp hl
       have hE : Ext wr wq := hG
       have hS := hE.size
       have q61 : f 0 = .slice (some ⟨gl, offl, none⟩) 1 capl := tellV hp 0 0 rfl rfl (fun h => by cases h)
       simp only [OpGoal]
       go_simp
       exact ⟨_, rfl, Ext.refl _, rfl⟩
      case o2 =>
       intro f wq hG hp hl
       have hE : Ext wr wq := hG
       have hS := hE.size
       have q62 : f 1 = .int .i64 1 := tellV hp 0 1 rfl rfl (fun h => by cases h)
       simp only [OpGoal]
       go_simp
       exact ⟨_, rfl, Ext.refl _, rfl⟩
      case o3 =>
       intro f wq hG hp hl
       have hE : Ext wr wq := hG
       have hS := hE.size
       have q63 : f 2 = .bool true := tellV hp 0 2 rfl rfl (fun h => by cases h)
       simp only [OpGoal]
       go_simp
       exact ⟨_, rfl, Ext.refl _, rfl⟩
      case o4 =>
       intro f wq hG hp hl
       have hE : Ext wr wq := hG
       have hS := hE.size
       have qg : f 3 = .bool true := tellV hp 0 3 rfl rfl (fun h => by cases h)
       change OpGoal _ _ _ f wq Ext _
       refine og_guard (j := 3) (want := true) rfl qg ?_
       simp only [OpGoal]
       go_simp
       exact ⟨_, rfl, Ext.refl _, rfl⟩
      case o5 =>
       intro f wq hG hp hl
       have hE : Ext wr wq := hG
       have hS := hE.size
       have q65 : f 4 = .slice (some ⟨gl, offl, none⟩) 1 capl := tellV hp 0 4 rfl rfl (fun h => by cases h)
       have qg : f 3 = .bool true := tellV hp 1 3 rfl rfl (fun h => by cases h)
       change OpGoal _ _ _ f wq Ext _
       refine og_guard (j := 3) (want := true) rfl qg ?_
       simp only [OpGoal]
       go_simp
       exact ⟨_, rfl, Ext.refl _, rfl⟩
      case o6 =>
       intro f wq hG hp hl
       have hE : Ext wr wq := hG
       have hS := hE.size
       have q66 : f 5 = .pointer (some ⟨gl, offl, none⟩) := tellV hp 0 5 rfl rfl (fun h => by cases h)
       have qg : f 3 = .bool true := tellV hp 1 3 rfl rfl (fun h => by cases h)
       change OpGoal _ _ _ f wq Ext _
       refine og_guard (j := 3) (want := true) rfl qg ?_
       change OpGoal _ _ _ f wq Ext _
       exact og_loadAt (P := Tryz.prog) _ _ gl offl _ _ rfl rfl q66 (fun j v h => by have := HLC.out.1 _ (hE0.trans hE) j v h; simpa using this) Tryz.underlying58 rfl (by kernel_rfl) rfl
      case o7 =>
       intro f wq hG hp hl
       have hE : Ext wr wq := hG
       have hS := hE.size
       have q67 : f 6 = .agg #[.bool lb, .slice la1 ln1 lc1, .slice la2 ln2 lc2] := tellV hp 0 6 rfl rfl (fun h => by cases h)
       have qg : f 3 = .bool true := tellV hp 1 3 rfl rfl (fun h => by cases h)
       change OpGoal _ _ _ f wq Ext _
       refine og_guard (j := 3) (want := true) rfl qg ?_
       change OpGoal _ _ _ f wq Ext _
       refine og_call (P := Tryz.prog) _ _ _ #[f 6] Tryz.func30 (by kernel_rfl) (by kernel_rfl) rfl rfl (by kernel_rfl) ?_
       rw [q67]
       refine (rqofR_calls _ (q k0) 4777 _ (HLC.out.2.ext (hE0.trans hE)) (by omega)).mono ?_
       rintro e w' ⟨v', rfl, h1, h2⟩
       exact ⟨v', rfl, h2, h1.mono hS⟩
      case o8 =>
       intro f wq hG hp hl
       have hE : Ext wr wq := hG
       have hS := hE.size
       have qg : f 3 = .bool true := tellV hp 0 3 rfl rfl (fun h => by cases h)
       change OpGoal _ _ _ f wq Ext _
       refine og_guard (j := 3) (want := true) rfl qg ?_
       change OpGoal _ _ _ f wq Ext _
       exact og_load (P := Tryz.prog) _ _ g5 _ _ _ rfl rfl rfl (hbx.ext hE) Tryz.underlying50 rfl (by kernel_rfl) rfl
      case o9 =>
       intro f wq hG hp hl
       have hE : Ext wr wq := hG
       have hS := hE.size
       have q68 := tellV hp 0 7 rfl rfl (fun _ => hE)
       have q69 : f 8 = .agg #[.bool rb, .slice r1 m1 d1, .slice r2 m2' d2] := tellV hp 1 8 rfl rfl (fun h => by cases h)
       have qg : f 3 = .bool true := tellV hp 3 3 rfl rfl (fun h => by cases h)
       change OpGoal _ _ _ f wq Ext _
       refine og_guard (j := 3) (want := true) rfl qg ?_
       change OpGoal _ _ _ f wq Ext _
       refine og_call (P := Tryz.prog) _ _ _ #[f 7, f 8] Tryz.func31 (by kernel_rfl) (by kernel_rfl) rfl rfl (by kernel_rfl) ?_
       rw [q69]
       refine (rqcmp3_calls _ _ (q k0) (q k0) (5 * 4777) 23833 _ q68.cq (HQF.out.1.ext hE).cq (szD_of HLC.out.2.sz) HQF.out.2 (by omega)).mono ?_
       rintro e w' ⟨rfl, h2⟩
       exact ⟨_, rfl, h2, congrArg (Value.int .i64) (cmpR_self _)⟩
      case o10 =>
       intro f wq hG hp hl
       have hE : Ext wr wq := hG
       have hS := hE.size
       have q70 : f 9 = .int .i64 0 := tellV hp 0 9 rfl rfl (fun h => by cases h)
       have qg : f 3 = .bool true := tellV hp 1 3 rfl rfl (fun h => by cases h)
       change OpGoal _ _ _ f wq Ext _
       refine og_guard (j := 3) (want := true) rfl qg ?_
       simp only [OpGoal]
       go_simp
       exact ⟨_, rfl, Ext.refl _, rfl⟩
      case o11 =>
       intro f wq hG hp hl
       have hE : Ext wr wq := hG
       have hS := hE.size
       have q64 : f 3 = .bool true := tellV hp 0 3 rfl rfl (fun h => by cases h)
       have q71 : f 10 = .bool true := tellV hp 1 10 rfl rfl (fun h => by cases h)
       simp only [OpGoal]
       go_simp
       exact ⟨_, rfl, Ext.refl _, rfl⟩
      case o12 =>
       intro f wq hG hp hl
       have hE : Ext wr wq := hG
       have hS := hE.size
       have q72 : f 11 = .bool true := tellV hp 0 11 rfl rfl (fun h => by cases h)
       simp only [OpGoal]
       go_simp
       exact ⟨_, rfl, Ext.refl _, rfl⟩
      case o13 =>
       intro f wq hG hp hl
       have hE : Ext wr wq := hG
       have hS := hE.size
       have qg : f 12 = .bool true := tellV hp 0 12 rfl rfl (fun h => by cases h)
       change OpGoal _ _ _ f wq Ext _
       refine og_guard (j := 12) (want := true) rfl qg ?_
       simp only [OpGoal]
       go_simp
       exact ⟨_, rfl, Ext.refl _, rfl⟩
      case o14 =>
       intro f wq hG hp hl
       have hE : Ext wr wq := hG
       have hS := hE.size
       have q74 : f 13 = .slice ad n cap := tellV hp 0 13 rfl rfl (fun h => by cases h)
       have qg : f 12 = .bool true := tellV hp 1 12 rfl rfl (fun h => by cases h)
       change OpGoal _ _ _ f wq Ext _
       refine og_guard (j := 12) (want := true) rfl qg ?_
       simp only [OpGoal]
       go_simp
       exact ⟨_, rfl, Ext.refl _, rfl⟩
      case o15 =>
       intro f wq hG hp hl
       have hE : Ext wr wq := hG
       have hS := hE.size
       have q75 : f 14 = .int .i64 (n : Int) := tellV hp 0 14 rfl rfl (fun h => by cases h)
       have qg : f 12 = .bool true := tellV hp 1 12 rfl rfl (fun h => by cases h)
       change OpGoal _ _ _ f wq Ext _
       refine og_guard (j := 12) (want := true) rfl qg ?_
       change OpGoal _ _ _ f wq Ext _
       refine og_call (P := Tryz.prog) _ _ _ #[f 14] Tryz.func16 (by kernel_rfl) (by kernel_rfl) rfl rfl (by kernel_rfl) ?_
       rw [q75]
       refine (unit_calls n _ (by omega)).mono ?_
       rintro e w' ⟨v', rfl, h1, h2⟩
       exact ⟨v', rfl, h2, h1.mono hS (by omega)⟩
      case o16 =>
       intro f wq hG hp hl
       have hE : Ext wr wq := hG
       have hS := hE.size
       have qg : f 12 = .bool true := tellV hp 0 12 rfl rfl (fun h => by cases h)
       change OpGoal _ _ _ f wq Ext _
       refine og_guard (j := 12) (want := true) rfl qg ?_
       simp only [OpGoal]
       go_simp
       exact ⟨_, rfl, Ext.refl _, rfl⟩
      case o17 =>
       intro f wq hG hp hl
       have hE : Ext wr wq := hG
       have hS := hE.size
       have q76 := tellV hp 0 15 rfl rfl (fun _ => hE)
       have q77 : f 16 = .slice ad n cap := tellV hp 1 16 rfl rfl (fun h => by cases h)
       have qg : f 12 = .bool true := tellV hp 3 12 rfl rfl (fun h => by cases h)
       change OpGoal _ _ _ f wq Ext _
       refine og_guard (j := 12) (want := true) rfl qg ?_
       change OpGoal _ _ _ f wq Ext _
       refine og_call (P := Tryz.prog) _ _ _ #[f 15, f 16] Tryz.func26 (by kernel_rfl) (by kernel_rfl) rfl rfl (by kernel_rfl) ?_
       rw [q77]
       refine (product_calls 1 6 1 30 _ _ (unitM n) M _ (q76.ml (by omega)) (TM.out.1 (HV.out.ext (E9r.trans hE))) (unitM_one n) HML.out (by rw [unitM_len]; omega) (by omega) (by omega) (by omega) (by omega)).mono ?_
       rintro e w' ⟨v', rfl, h1, h2⟩
       exact ⟨v', rfl, h2, h1.mono hS (by omega)⟩
      case o18 =>
       intro f wq hG hp hl
       have hE : Ext wr wq := hG
       have hS := hE.size
       have qg : f 12 = .bool true := tellV hp 0 12 rfl rfl (fun h => by cases h)
       change OpGoal _ _ _ f wq Ext _
       refine og_guard (j := 12) (want := true) rfl qg ?_
       simp only [OpGoal]
       go_simp
       exact ⟨_, rfl, Ext.refl _, rfl⟩
      case o19 =>
       intro f wq hG hp hl
       have hE : Ext wr wq := hG
       have hS := hE.size
       have q79 : f 18 = .slice ad n cap := tellV hp 0 18 rfl rfl (fun h => by cases h)
       have qg : f 12 = .bool true := tellV hp 1 12 rfl rfl (fun h => by cases h)
       change OpGoal _ _ _ f wq Ext _
       refine og_guard (j := 12) (want := true) rfl qg ?_
       simp only [OpGoal]
       go_simp
       exact ⟨_, rfl, Ext.refl _, rfl⟩
      case o20 =>
       intro f wq hG hp hl
       have hE : Ext wr wq := hG
       have hS := hE.size
       have q80 : f 19 = .int .i64 (n : Int) := tellV hp 0 19 rfl rfl (fun h => by cases h)
       have qg : f 12 = .bool true := tellV hp 2 12 rfl rfl (fun h => by cases h)
       change OpGoal _ _ _ f wq Ext _
       refine og_guard (j := 12) (want := true) rfl qg ?_
       change OpGoal _ _ _ f wq Ext _
       refine og_call (P := Tryz.prog) _ _ _ #[f 19] Tryz.func16 (by kernel_rfl) (by kernel_rfl) rfl rfl (by kernel_rfl) ?_
       rw [q80]
       refine (unit_calls n _ (by omega)).mono ?_
       rintro e w' ⟨v', rfl, h1, h2⟩
       exact ⟨v', rfl, h2, h1.mono hS (by omega)⟩
      case o21 =>
       intro f wq hG hp hl
       have hE : Ext wr wq := hG
       have hS := hE.size
       have qg : f 12 = .bool true := tellV hp 0 12 rfl rfl (fun h => by cases h)
       change OpGoal _ _ _ f wq Ext _
       refine og_guard (j := 12) (want := true) rfl qg ?_
       simp only [OpGoal]
       go_simp
       exact ⟨_, rfl, Ext.refl _, rfl⟩
      case o22 =>
       intro f wq hG hp hl
       have hE : Ext wr wq := hG
       have hS := hE.size
       have q81 := tellV hp 0 20 rfl rfl (fun _ => hE)
       have q82 : f 21 = .slice ad n cap := tellV hp 1 21 rfl rfl (fun h => by cases h)
       have qg : f 12 = .bool true := tellV hp 3 12 rfl rfl (fun h => by cases h)
       change OpGoal _ _ _ f wq Ext _
       refine og_guard (j := 12) (want := true) rfl qg ?_
       change OpGoal _ _ _ f wq Ext _
       refine og_call (P := Tryz.prog) _ _ _ #[f 20, f 21] Tryz.func26 (by kernel_rfl) (by kernel_rfl) rfl rfl (by kernel_rfl) ?_
       rw [q82]
       refine (product_calls 1 6 1 30 _ _ (unitM n) M _ (q81.ml (by omega)) (TM.out.1 (HV.out.ext (E9r.trans hE))) (unitM_one n) HML.out (by rw [unitM_len]; omega) (by omega) (by omega) (by omega) (by omega)).mono ?_
       rintro e w' ⟨v', rfl, h1, h2⟩
       exact ⟨v', rfl, h2, h1.mono hS (by omega)⟩
      case o23 =>
       intro f wq hG hp hl
       have hE : Ext wr wq := hG
       have hS := hE.size
       have qg : f 12 = .bool true := tellV hp 1 12 rfl rfl (fun h => by cases h)
       change OpGoal _ _ _ f wq Ext _
       refine og_guard (j := 12) (want := true) rfl qg ?_
       change OpGoal _ _ _ f wq Ext _
       refine og_call (P := Tryz.prog) _ _ _ #[.int .i64 60] Tryz.func16 (by kernel_rfl) (by kernel_rfl) rfl rfl (by kernel_rfl) ?_
       refine (unit_calls 60 _ (by omega)).mono ?_
       rintro e w' ⟨v', rfl, h1, h2⟩
       exact ⟨v', rfl, h2, h1.mono hS (by omega)⟩
      case o24 =>
       intro f wq hG hp hl
       have hE : Ext wr wq := hG
       have hS := hE.size
       have q83 := tellV hp 0 22 rfl rfl (fun _ => hE)
       have q84 := tellV hp 1 23 rfl rfl (fun _ => hE)
       have qg : f 12 = .bool true := tellV hp 3 12 rfl rfl (fun h => by cases h)
       change OpGoal _ _ _ f wq Ext _
       refine og_guard (j := 12) (want := true) rfl qg ?_
       change OpGoal _ _ _ f wq Ext _
       refine og_call (P := Tryz.prog) _ _ _ #[f 22, f 23] Tryz.func26 (by kernel_rfl) (by kernel_rfl) rfl rfl (by kernel_rfl) ?_
       refine (product_calls 271 1 30 1 _ _ (sideP M n) (unitM 60) _ (q83.ml (by omega)) (q84.ml (by omega)) (sideP_len HML.out) (unitM_one 60) (by unfold sideP; rw [List.length_map, unitM_len]; omega) (by omega) (by omega) (by omega) (by omega)).mono ?_
       rintro e w' ⟨v', rfl, h1, h2⟩
       exact ⟨v', rfl, h2, h1.mono hS (by omega)⟩
      case o25 =>
       intro f wq hG hp hl
       have hE : Ext wr wq := hG
       have hS := hE.size
       have q78 := tellV hp 0 17 rfl rfl (fun _ => hE)
       have q85 := tellV hp 1 24 rfl rfl (fun _ => hE)
       have qg : f 12 = .bool true := tellV hp 3 12 rfl rfl (fun h => by cases h)
       change OpGoal _ _ _ f wq Ext _
       refine og_guard (j := 12) (want := true) rfl qg ?_
       change OpGoal _ _ _ f wq Ext _
       refine og_call (P := Tryz.prog) _ _ _ #[f 17, f 24] Tryz.func13 (by kernel_rfl) (by kernel_rfl) rfl rfl (by kernel_rfl) ?_
       refine (sameM_calls _ _ _ _ _ (q78.mle (by omega)) (q85.mle (by omega))).mono ?_
       rintro e w' ⟨rfl, h2⟩
       exact ⟨_, rfl, h2, congrArg Value.bool HSS.out.symm⟩
      case o26 =>
       intro f wq hG hp hl
       have hE : Ext wr wq := hG
       have hS := hE.size
       have q73 : f 12 = .bool true := tellV hp 0 12 rfl rfl (fun h => by cases h)
       have q86 : f 25 = .bool false := tellV hp 1 25 rfl rfl (fun h => by cases h)
       simp only [OpGoal]
       go_simp
       exact ⟨_, rfl, Ext.refl _, rfl⟩
      case o27 =>
       intro f wq hG hp hl
       have hE : Ext wr wq := hG
       have hS := hE.size
       have q87 : f 26 = .bool false := tellV hp 0 26 rfl rfl (fun h => by cases h)
       simp only [OpGoal]
       go_simp
       exact ⟨_, rfl, Ext.refl _, rfl⟩
      case o28 =>
       intro f wq hG hp hl
       have hE : Ext wr wq := hG
       have hS := hE.size
       have qg : f 27 = .bool false := tellV hp 0 27 rfl rfl (fun h => by cases h)
       change OpGoal _ _ _ f wq Ext _
       refine og_guard (j := 27) (want := false) rfl qg ?_
       simp only [OpGoal]
       go_simp
       exact ⟨_, rfl, Ext.refl _, rfl⟩
      case o29 =>
       intro f wq hG hp hl
       have hE : Ext wr wq := hG
       have hS := hE.size
       have q89 : f 28 = .slice ad n cap := tellV hp 0 28 rfl rfl (fun h => by cases h)
       have qg : f 27 = .bool false := tellV hp 1 27 rfl rfl (fun h => by cases h)
       change OpGoal _ _ _ f wq Ext _
       refine og_guard (j := 27) (want := false) rfl qg ?_
       change OpGoal _ _ _ f wq Ext _
       refine og_call (P := Tryz.prog) _ _ _ #[f 28] Tryz.func32 (by kernel_rfl) (by kernel_rfl) rfl rfl (by kernel_rfl) ?_
       rw [q89]
       refine (most_calls 6 _ M _ (TM.out.1 (HV.out.ext (E9r.trans hE))) (fun r hr => Nat.le_trans (HML.out r hr) (by omega)) (by omega)).mono ?_
       rintro e w' ⟨m, rfl, hm, h2⟩
       refine ⟨_, rfl, h2, m, rfl, ?_⟩
       rcases Int.lt_or_le m 60 with h6 | h6
       ·exact absurd (congrArg (List.map fmV) (side_eq ((most_lt hm (by omega)).1 h6))) (of_decide_eq_false HSS.out.symm)
       ·exact h6
      case o30 =>
       intro f wq hG hp hl
       have hE : Ext wr wq := hG
       have hS := hE.size
       have q90 := tellV hp 0 29 rfl rfl (fun _ => hE)
       have qg : f 27 = .bool false := tellV hp 1 27 rfl rfl (fun h => by cases h)
       change OpGoal _ _ _ f wq Ext _
       refine og_guard (j := 27) (want := false) rfl qg ?_
       obtain ⟨m, hm, h60⟩ := q90
       simp only [OpGoal]
       go_simp
       exact ⟨_, rfl, Ext.refl _, congrArg Value.bool (by first | exact decide_eq_true h60 | simp [h60])⟩
      case o31 =>
       intro f wq hG hp hl
       have hE : Ext wr wq := hG
       have hS := hE.size
       have q88 : f 27 = .bool false := tellV hp 0 27 rfl rfl (fun h => by cases h)
       have q91 : f 30 = .bool true := tellV hp 1 30 rfl rfl (fun h => by cases h)
       simp only [OpGoal]
       go_simp
       exact ⟨_, rfl, Ext.refl _, rfl⟩
      case o32 =>
       intro f wq hG hp hl
       have hE : Ext wr wq := hG
       have hS := hE.size
       have q92 : f 31 = .bool true := tellV hp 0 31 rfl rfl (fun h => by cases h)
       simp only [OpGoal]
       go_simp
       exact ⟨_, rfl, Ext.refl _, rfl⟩
     ·intro f wq hG hp
      have hE : Ext wr wq := ChgS.nil hG
      have q6 : f 32 = .bool true := endV hp 32 (by decide) rfl (fun h => by cases h)
      try simp only [q6]
      clear hp
      go_wp2
      go_ret
      exact ⟨rfl, E9r.trans hE⟩
   ·have hlt : (i : Int) < (k0 : Int) := by omega
    have hltn : (i : Int) < (n : Int) := by omega
    obtain ⟨y, hy⟩ : ∃ y, Z[i]? = some y := ⟨_, List.getElem?_eq_getElem (by rw [HZL.out]; exact hin)⟩
    obtain ⟨r, hr⟩ : ∃ r, (timesM M X)[i]? = some r := ⟨_, List.getElem?_eq_getElem (by unfold timesM; rw [List.length_map, HMN.out]; omega)⟩
    obtain ⟨ady', ny', capy', -, hsly, -, haty⟩ := (HZQ.out w (Ext.refl w)).at
    simp only [Value.slice.injEq] at hsly
    obtain ⟨rfl, -, -⟩ := hsly
    obtain ⟨gy, offy, rfl, yb, ya1, yn1, yc1, ya2, yn2, yc2, hyc, hyR⟩ := haty i y hy
    obtain ⟨gr, offr, rfl, rrb, ra1, rn1, rc1, ra2, rn2, rc2, hrc, hrR⟩ := HATR.out i r hr
    have HYC := Lib.hid (And.intro hyc hyR)
    have HRC := Lib.hid (And.intro hrc hrR)
    have HQS1 := Lib.hid (HQS.out i y r hy hr)
    have E6r := e69.trans hE0
    have hmul : i * 1986 + 1986 = (i + 1) * 1986 := (Nat.succ_mul i 1986).symm
    have hic : i * 1986 ≤ 12 * 1986 := Nat.mul_le_mul_right _ (by omega)
    clear hy hr haty hyc hyR hrc hrR
    go_wp2_with fail
    refine wp_region_puts [⟨13, g5, 50, PP.frQdS (q i + y * r) ((i + 1) * 1986 + 1)⟩] [PP.val (.agg #[.bool rb, .slice r1 m1 d1, .slice r2 m2' d2]), PP.val (.slice (some ⟨gy, offy, none⟩) k0 capy), PP.val (.int .i64 (i : Int)), PP.val (.pointer (some ⟨gy, offy + i * 3, none⟩)), PP.val (.agg #[.bool yb, .slice ya1 yn1 yc1, .slice ya2 yn2 yc2]), PP.frQd y, PP.val (.slice (some ⟨gr, offr, none⟩) n capr), PP.val (.int .i64 (i : Int)), PP.val (.pointer (some ⟨gr, offr + i * 3, none⟩)), PP.val (.agg #[.bool rrb, .slice ra1 rn1 rc1, .slice ra2 rn2 rc2]), PP.frQd r, PP.frQdS (y * r) 1985, PP.frQdS (q i + y * r) ((i + 1) * 1986 + 1), PP.any] [] [13, 12, 11, 10, 9, 8, 7, 6, 5, 4, 3, 2, 1, 0]
     (by kernel_rfl) (by kernel_rfl) (fun f => (by simp only [fillR, fillL, List.setIfInBounds_toArray, List.set_cons_succ, List.set_cons_zero, Nat.reduceAdd]; rfl)) ?_ ?_ ?_ ?_ ?_
    ·intro x hx; simp only [List.mem_singleton] at hx; subst hx; exact ⟨by show g5 < wr.heap.size; omega, rfl⟩
    ·intro x hx; simp only [List.mem_singleton] at hx; subst hx; rfl
    ·intro x hx y hy h; simp only [List.mem_singleton] at hx hy; subst hx hy; exact absurd rfl h
    ·refine ⟨?o0, ?o1, ?o2, ?o3, ?o4, ?o5, ?o6, ?o7, ?o8, ?o9, ?o10, ?o11, ?o12, ?o13, trivial⟩
     case o0 =>
      intro f wq hG hp hl
      have hE : Ext wr wq := hG
      have hS := hE.size
      change OpGoal _ _ _ f wq Ext _
      exact og_load (P := Tryz.prog) _ _ g5 _ _ _ rfl rfl rfl (hbx.ext hE) Tryz.underlying50 rfl (by kernel_rfl) rfl
     case o1 =>
      intro f wq hG hp hl
      have hE : Ext wr wq := hG
      have hS := hE.size
      simp only [OpGoal]
      go_simp
      exact ⟨_, rfl, Ext.refl _, rfl⟩
     case o2 =>
      intro f wq hG hp hl
      have hE : Ext wr wq := hG
      have hS := hE.size
      simp only [OpGoal]
      go_simp
      exact ⟨_, rfl, Ext.refl _, rfl⟩
     case o3 =>
      intro f wq hG hp hl
      have hE : Ext wr wq := hG
      have hS := hE.size
      have q48 : f 1 = .slice (some ⟨gy, offy, none⟩) k0 capy := tellV hp 0 1 rfl rfl (fun h => by cases h)
      have q49 : f 2 = .int .i64 (i : Int) := tellV hp 1 2 rfl rfl (fun h => by cases h)
      simp only [OpGoal]
      go_simp
      exact ⟨_, rfl, Ext.refl _, rfl⟩
     case o4 =>
      intro f wq hG hp hl
      have hE : Ext wr wq := hG
      have hS := hE.size
      have q50 : f 3 = .pointer (some ⟨gy, offy + i * 3, none⟩) := tellV hp 0 3 rfl rfl (fun h => by cases h)
      change OpGoal _ _ _ f wq Ext _
      exact og_loadAt (P := Tryz.prog) _ _ gy (offy + i * 3) _ _ rfl rfl q50 (fun j v h => HYC.out.1 _ (E9r.trans hE) j v h) Tryz.underlying58 rfl (by kernel_rfl) rfl
     case o5 =>
      intro f wq hG hp hl
      have hE : Ext wr wq := hG
      have hS := hE.size
      have q51 : f 4 = .agg #[.bool yb, .slice ya1 yn1 yc1, .slice ya2 yn2 yc2] := tellV hp 0 4 rfl rfl (fun h => by cases h)
      change OpGoal _ _ _ f wq Ext _
      refine og_call (P := Tryz.prog) _ _ _ #[f 4] Tryz.func30 (by kernel_rfl) (by kernel_rfl) rfl rfl (by kernel_rfl) ?_
      rw [q51]
      refine (rqofR_calls _ y 6 _ (HYC.out.2.ext (E9r.trans hE)) (by omega)).mono ?_
      rintro e w' ⟨v', rfl, h1, h2⟩
      exact ⟨v', rfl, h2, h1.mono hS⟩
     case o6 =>
      intro f wq hG hp hl
      have hE : Ext wr wq := hG
      have hS := hE.size
      simp only [OpGoal]
      go_simp
      exact ⟨_, rfl, Ext.refl _, rfl⟩
     case o7 =>
      intro f wq hG hp hl
      have hE : Ext wr wq := hG
      have hS := hE.size
      simp only [OpGoal]
      go_simp
      exact ⟨_, rfl, Ext.refl _, rfl⟩
     case o8 =>
      intro f wq hG hp hl
      have hE : Ext wr wq := hG
      have hS := hE.size
      have q53 : f 6 = .slice (some ⟨gr, offr, none⟩) n capr := tellV hp 0 6 rfl rfl (fun h => by cases h)
      have q54 : f 7 = .int .i64 (i : Int) := tellV hp 1 7 rfl rfl (fun h => by cases h)
      simp only [OpGoal]
      go_simp
      exact ⟨_, rfl, Ext.refl _, rfl⟩
     case o9 =>
      intro f wq hG hp hl
      have hE : Ext wr wq := hG
      have hS := hE.size
      have q55 : f 8 = .pointer (some ⟨gr, offr + i * 3, none⟩) := tellV hp 0 8 rfl rfl (fun h => by cases h)
      change OpGoal _ _ _ f wq Ext _
      exact og_loadAt (P := Tryz.prog) _ _ gr (offr + i * 3) _ _ rfl rfl q55 (fun j v h => HRC.out.1 _ (E6r.trans hE) j v h) Tryz.underlying58 rfl (by kernel_rfl) rfl
     case o10 =>
      intro f wq hG hp hl
      have hE : Ext wr wq := hG
      have hS := hE.size
      have q56 : f 9 = .agg #[.bool rrb, .slice ra1 rn1 rc1, .slice ra2 rn2 rc2] := tellV hp 0 9 rfl rfl (fun h => by cases h)
      change OpGoal _ _ _ f wq Ext _
      refine og_call (P := Tryz.prog) _ _ _ #[f 9] Tryz.func30 (by kernel_rfl) (by kernel_rfl) rfl rfl (by kernel_rfl) ?_
      rw [q56]
      refine (rqofR_calls _ r 391 _ (HRC.out.2.ext (E6r.trans hE)) (by omega)).mono ?_
      rintro e w' ⟨v', rfl, h1, h2⟩
      exact ⟨v', rfl, h2, h1.mono hS⟩
     case o11 =>
      intro f wq hG hp hl
      have hE : Ext wr wq := hG
      have hS := hE.size
      have q52 := tellV hp 0 5 rfl rfl (fun _ => hE)
      have q57 := tellV hp 1 10 rfl rfl (fun _ => hE)
      change OpGoal _ _ _ f wq Ext _
      refine og_call (P := Tryz.prog) _ _ _ #[f 5, f 10] Tryz.func29 (by kernel_rfl) (by kernel_rfl) rfl rfl (by kernel_rfl) ?_
      refine (rqmul3_calls _ _ y r (5 * 6) (5 * 391) _ q52.cq q57.cq (szD_of HYC.out.2.sz) (szD_of HRC.out.2.sz) (by omega)).mono ?_
      rintro e w' ⟨v', rfl, h1, h3, h2⟩
      exact ⟨v', rfl, h2, h1.mono hS, h3⟩
     case o12 =>
      intro f wq hG hp hl
      have hE : Ext wr wq := hG
      have hS := hE.size
      have q47 : f 0 = .agg #[.bool rb, .slice r1 m1 d1, .slice r2 m2' d2] := tellV hp 0 0 rfl rfl (fun h => by cases h)
      have q58 := tellV hp 1 11 rfl rfl (fun _ => hE)
      change OpGoal _ _ _ f wq Ext _
      refine og_call (P := Tryz.prog) _ _ _ #[f 0, f 11] Tryz.func28 (by kernel_rfl) (by kernel_rfl) rfl rfl (by kernel_rfl) ?_
      rw [q47]
      refine (rqadd3_calls _ _ (q i) (y * r) (i * 1986 + 1) 1985 _ (HQ.out.ext hE).cq q58.1.cq HSZ.out q58.2 (by omega)).mono ?_
      rintro e w' ⟨v', rfl, h1, h3, h2⟩
      exact ⟨v', rfl, h2, h1.mono hS, by omega⟩
     case o13 =>
      intro f wq hG hp hl
      have hE : Ext wr wq := hG
      have hS := hE.size
      have q59 := tellV hp 0 12 rfl rfl (fun _ => hE)
      intro hg0
      change OpGoal _ _ _ f wq (Chg _) _
      obtain ⟨⟨s', t', hv, hn, hm⟩, hsz⟩ := q59
      exact og_store (P := Tryz.prog) _ _ _ g5 _ _ _ (PP.frQdS _ _ : PP _).p rfl rfl rfl hv (show Bx 50 wq _ _ from hg0.trans hbx) (by kernel_rfl) rfl (all3 rfl hn.oneCell hm.oneCell) (fun w' h => ⟨⟨s', t', rfl, hn.chg h (by omega), hm.chg h (by omega)⟩, hsz⟩)
    ·intro f wq hG hp
     obtain ⟨cs0, hbx0, hz0⟩ : ∃ cs, Bx 50 wq g5 cs ∧ (PP.frQdS (q i + y * r) ((i + 1) * 1986 + 1) : PP wr.heap.size).p (.agg cs) wq := endS hp 13 (by decide)
     clear hp
     obtain ⟨hz1, hz2⟩ := hz0
     obtain ⟨b6, a6, l6, cap6, a7', l7', cap7', hvv, hz1⟩ := hz1.opn
     cases hvv
     have Hq6 := Lib.hid hz1
     have Z6 := Lib.hid hz2
     have hsz6 := hE0.size
     have E6' : Ext w9 wq := hE0.stepS hG (by simp; omega)
     clear hz1 hz2
     go_wp2
     go_roundw
     case rel =>
      refine ⟨i + 1, by omega, congrArg (Value.int .i64) (by omega), Lib.hid ⟨E6', _, _, _, _, _, _, _, hbx0, ?_, ?_⟩⟩
      ·rw [HQS1.out]
       exact Hq6.out.mono hsz6
      ·rw [HQS1.out]
       exact Z6.out
     case measure => simp [intOf]; omega
end Go.Proofs.YtdmjgjcljbogiaaGreat
