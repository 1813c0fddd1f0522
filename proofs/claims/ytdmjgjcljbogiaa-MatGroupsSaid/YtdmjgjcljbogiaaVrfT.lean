/-
 Vectors: a times one, and another one (vec.Axpy, vec.Scale); a list as a vector (vec.Gather).
-/
import Derived.Test.YtdmjgjcljbogiaaVfcT
import Derived.Test.YtdmjgjcljbogiaaSstT
import Derived.Deep.Strs
import Derived.Maps.AppendAt
namespace Go.Proofs.Ytdmjgjcljbogiaa
set_option maxRecDepth 100000
set_option maxHeartbeats 1000000
open Go.RowKit
set_option linter.unusedVariables false
set_option linter.unusedSimpArgs false
theorem szQ_zero : szQ 0 ≤ 1 := by decide +kernel
theorem putV_len (c : Int) (q : Rat) : ∀ l : List (Int × Rat), (putV c q l).length ≤ l.length + 1
 | [] => by simp [putV]
 | x :: l => by
  unfold putV
  split
  ·simp
  ·split
   ·simp
   ·have := putV_len c q l
    simp
    omega
theorem mkV_len (l : List (Int × Rat)) : (mkV l).length ≤ l.length := by
 have h : ∀ l : List (Int × Rat), (upV l).length ≤ l.length := fun l => by
  induction l with
  | nil => simp [upV]
  | cons x l ih =>
   unfold upV
   split
   ·have := putV_len x.1 x.2 (upV l)
    simp
    omega
   ·simp
    omega
 unfold mkV nz
 exact Nat.le_trans (List.length_filter_le ..) (h l)
theorem sz_sum {k : Nat} {l : List (Int × Rat)} (h : ∀ x ∈ l, szQ x.2 ≤ k) (c : Int) : szQ (sumAt l c) ≤ l.length * (k + 1) + 1 := by
 induction l with
 | nil => simpa [sumAt] using szQ_zero
 | cons x l ih =>
  have i := ih fun y hy => h y (List.mem_cons_of_mem _ hy)
  have hx := h x (List.mem_cons_self ..)
  rw [List.length_cons, Nat.succ_mul]
  unfold sumAt
  split
  ·have := szQ_add hx i
   omega
  ·rw [Rat.zero_add]
   omega
theorem sz_get {k : Nat} {l : List (Int × Rat)} (h : ∀ x ∈ l, szQ x.2 ≤ k) (c : Int) : szQ (getV l c) ≤ l.length * (k + 1) + 1 := by
 unfold getV
 split
 ·exact sz_sum h c
 ·have := szQ_zero
  omega
theorem TL.szs {k : Nat} {w : World} {v : Value} {l : List (Int × Rat)} (h : TL k w v l) : ∀ x ∈ l, szQ x.2 ≤ k := by
 intro x hx
 obtain ⟨i, hi, rfl⟩ := List.getElem_of_mem hx
 obtain ⟨ad, m, cap, -, -, -, h4⟩ := h.at
 obtain ⟨g, off, -, b, a1, n1, c1, a2, n2, c2, hc⟩ := h4 i _ (List.getElem?_eq_getElem hi)
 exact (hc w (Ext.refl w)).2.2.2.2.sz
theorem QL.szs {k : Nat} {w : World} {v : Value} {l : List Rat} (h : QL k w v l) : ∀ x ∈ l, szQ x ≤ k := by
 intro x hx
 obtain ⟨i, hi, rfl⟩ := List.getElem_of_mem hx
 obtain ⟨ad, m, cap, -, -, -, h4⟩ := h.at
 obtain ⟨g, off, -, b, a1, n1, c1, a2, n2, c2, -, hc⟩ := h4 i _ (List.getElem?_eq_getElem hi)
 exact hc.sz
def AxF (w wr : World) (K : Nat) (ps : Ps) : Prop := ∀ p ∈ ps, IsR w (ratv p.1) p.2 K ∨ (FrQ w.heap.size wr (ratv p.1) p.2 ∧ szQ p.2 ≤ K)
def AxJ (w wr : World) (K : Nat) (lv : Value) (m : List (Int × Rat)) : Prop := Ext w wr ∧ ∃ ps : Ps, LS 106 4 w.heap.size wr lv ((tsP ps).map tmv) ∧ lP ps = m ∧ AxF w wr K ps
theorem AxJ.ext {w wr w' : World} {K : Nat} {lv : Value} {m : List (Int × Rat)} (h : AxJ w wr K lv m) (he : Ext wr w') : AxJ w w' K lv m := by
 obtain ⟨h1, ps, h2, h3, h4⟩ := h
 exact ⟨h1.trans he, ps, h2.ext he, h3, fun p hp => (h4 p hp).imp_right fun ⟨a, b⟩ => ⟨a.ext he, b⟩⟩
theorem AxJ.tl {w wr : World} {K : Nat} {lv : Value} {m : List (Int × Rat)} (h : AxJ w wr K lv m) (hK : K ≤ LIM) : TL K wr lv m := by
 obtain ⟨h1, ps, h2, h3, h4⟩ := h
 rw [← h3]
 refine LS.tl h2 fun p hp => ?_
 rcases h4 p hp with h | ⟨h5, h6⟩
 ·exact h.ext h1
 ·exact h5.isR h6 hK
theorem AxJ.app {S n K gA : Nat} {c : Int} {q : Rat} {w wr w6 w7 : World} {hv v' : Value} {ps : Ps} {m : List (Int × Rat)} (h1 : Ext w wr) (h3 : lP ps = m) (h4 : AxF w wr K ps) (he : Ext wr w6) (hC : Chg gA w6 w7) (hgA : ∃ cs, Bx 106 w6 gA cs) (hA : ApT w.heap.size S n c q (tsP ps) hv v' w7) (hB : w.heap.size ≤ S) (hg : w.heap.size ≤ gA) (hq : szQ q ≤ K) : AxJ w w7 K v' (m ++ [(c, q)]) := by
 obtain ⟨t, g, cap, k1, k2, k3, k4, k5⟩ := hA
 obtain ⟨cs, hb⟩ := hgA
 refine ⟨(h1.trans he).step hC hg, ps ++ [(t, q)], by rw [tsP_snoc]; exact k2, by rw [lP_snoc, h3, k3], fun p hp => ?_⟩
 rcases List.mem_append.1 hp with hp | hp
 ·rcases h4 p hp with f | ⟨f1, f2⟩
  ·exact .inl f
  ·exact .inr ⟨(f1.ext he).chgB hC hb (by decide), f2⟩
 ·rw [List.mem_singleton] at hp
  subst hp
  exact .inr ⟨k4.mono hB, hq⟩
theorem IsR.le {w : World} {v : Value} {q : Rat} {k l : Nat} (h : IsR w v q k) (hk : k ≤ l) : IsR w v q l := h.mono hk
set_option maxHeartbeats 16000000 in
theorem vaxpy_calls (ka k kw K : Nat) (av v u : Value) (a : Rat) (l m : List (Int × Rat)) (w : World) (ha : IsR w av a ka) (hl : TL k w v l) (hm : TL kw w u m) (h1 : ka + k ≤ K) (h2 : kw ≤ K) (hn : m.length + l.length ≤ 1073741824) (hK : (m.length + l.length + 1) * (K + 1) ≤ 34359738000) :
  Calls Try.prog 94 #[av, v, u] w fun e w' => ∃ v', e = .returned v' ∧ TO w.heap.size ((m.length + l.length) * (K + 1)) w' v' (mkV (m ++ scV a l)) ∧ Ext w w' := by
 obtain ⟨ad, n, cap, hnl, rfl, hn1, hat⟩ := hl.at
 obtain ⟨mn0, hmn0⟩ : ∃ x, x = m.length := ⟨_, rfl⟩
 rw [← hnl, ← hmn0] at hn hK
 have hkk : K ≤ 34359738000 := by
  have : 1 * (K + 1) ≤ (mn0 + n + 1) * (K + 1) := Nat.mul_le_mul_right _ (by omega)
  omega
 obtain ⟨rb, r1, m1, d1, r2, m2, d2, rfl⟩ := ha.parts
 have HA := Lib.hid ha
 have HAT := Lib.hid hat
 have HN := Lib.hid hnl
 have HM0 := Lib.hid hmn0
 have HMM := Lib.hid hm
 rw [← HN.out, ← HM0.out]
 clear ha hl hm hat hnl hmn0
 obtain ⟨w1, hw1, e1, b1, s1⟩ := alloc1 w #[.bool rb, .slice r1 m1 d1, .slice r2 m2 d2] 28
 go_enter Try.func94, Try.ntmps94
 go_wp2_with fail
 rw [← hw1]
 refine (vclone_calls kw _ m w1 (HMM.out.ext e1) (by rw [← HM0.out]; omega)).mono ?_
 rintro e w2 ⟨v2, ps, rfl, hls, hlP, hR, e2⟩
 have hpl : ps.length = mn0 := by rw [HM0.out, ← hlP]; unfold lP; simp
 have htl : ((tsP ps).map tmv).length = mn0 := by unfold tsP; simp [hpl]
 obtain ⟨ad2, cap2, rfl, -⟩ := hls.opn
 rw [htl] at hls ⊢
 have hJ0 : AxJ w1 w2 K (.slice ad2 mn0 cap2) (m ++ scV a (l.take 0)) := ⟨e2, ps, hls, by rw [hlP]; simp [scV], fun p hp => .inl ((hR p hp).mono h2)⟩
 have HJ0 := Lib.hid (And.intro hJ0 (b1.ext e2))
 have HE1 := Lib.hid e1
 have hs1 : w1.heap.size = w.heap.size + 1 := s1
 clear hls hlP hR hpl htl hJ0 e2 b1 hw1 s1 e1
 go_wp2_with fail
 go_loopw [7, 14] (fun s7 s14 wr => ∃ (i p : Nat) (ado : Option Addr) (capo : Nat), i ≤ n ∧ s14 = .int .i64 (i : Int) ∧ s7 = .slice ado p capo ∧ Hid (p = mn0 + i ∧ AxJ w1 wr K (.slice ado p capo) (m ++ scV a (l.take i)) ∧ Bx 28 wr w.heap.size #[.bool rb, .slice r1 m1 d1, .slice r2 m2 d2])) (fun _ s14 _ => ((n : Int) - intOf s14).toNat)
 case atStart => exact ⟨0, mn0, ad2, cap2, Nat.zero_le _, rfl, rfl, Lib.hid ⟨rfl, HJ0.out⟩⟩
 case round =>
  obtain ⟨i, p, ado, capo, hi, rfl, rfl, hH⟩ := hrel
  obtain ⟨hpe, ⟨hE0, pso, hlso, hpso, hfro⟩, hbx⟩ := hH.out
  rcases Nat.eq_or_lt_of_le hi with hin | hin
  ·subst hin
   have hlt : ¬ ((i : Int) < (i : Int)) := by omega
   have hJ := hH.out.2.1
   rw [show l.take i = l by rw [HN.out, List.take_length]] at hJ
   have hlen : (m ++ scV a l).length = mn0 + i := by rw [List.length_append, HM0.out, HN.out]; unfold scV; rw [List.length_map]
   have HL := Lib.hid hlen
   have HJ := Lib.hid hJ
   clear hJ hlen hpe hpso hlso hfro hH HJ0
   go_wp2_with fail
   refine (vmake_calls K _ _ wr (HJ.out.tl (by rw [LIM_eq]; omega)) (by rw [HL.out]; exact hn) (by rw [HL.out]; exact hK)).mono ?_
   rintro e w9 ⟨v9, rfl, hto, e9⟩
   rw [HL.out] at hto
   have HTO := Lib.hid hto
   clear hto
   go_wp2
   go_ret
   exact ⟨_, rfl, HTO.out.mono (by have := hE0.size; omega), (HE1.out.trans hE0).trans e9⟩
  ·have hlt : (i : Int) < (n : Int) := by omega
   obtain ⟨x, hx⟩ : ∃ x, l[i]? = some x := ⟨_, List.getElem?_eq_getElem (by rw [← HN.out]; exact hin)⟩
   obtain ⟨g, off, rfl, b', a1, n1, c1, a2, n2, c2, hcell⟩ := HAT.out i x hx
   obtain ⟨hc0, hc1, hc2, hc3, hIsR⟩ := hcell wr (HE1.out.trans hE0)
   obtain ⟨xc, xq⟩ := x
   simp only at hc0 hc1 hc2 hc3 hIsR
   have HX := Lib.hid (And.intro hx hIsR)
   have hqK : szQ (a * xq) ≤ K := by have := szQ_mul HA.out.sz hIsR.sz; omega
   have HQK := Lib.hid hqK
   obtain ⟨w5, hw5, e5, b5, s5⟩ := alloc1 wr #[.int .i64 xc, .bool b', .slice a1 n1 c1, .slice a2 n2 c2] 106
   have E5 := (HE1.out.trans hE0).trans e5
   have hol : ((tsP pso).map tmv).length = p := by
    have := congrArg List.length hpso
    have h2 := (List.getElem?_eq_some_iff.1 hx).1
    rw [List.length_append] at this
    unfold lP scV at this
    unfold tsP
    simp at this ⊢
    have := HM0.out
    omega
   obtain ⟨i1, hi1⟩ : ∃ i1, i1 = i + 1 := ⟨_, rfl⟩
   have hi1' : (i : Int) + 1 = (i1 : Int) := by omega
   have hi1n : i1 ≤ n := by omega
   obtain ⟨p1, hp1⟩ : ∃ p1, p1 = p + 1 := ⟨_, rfl⟩
   have HI1 := Lib.hid (And.intro hi1 (And.intro hp1 hpe))
   have hpb : p ≤ 1073741824 := by omega
   have HPSO := Lib.hid hpso
   have HFO := Lib.hid hfro
   have hwr := hE0.size
   have hw5s := e5.size
   have B1 := hbx.ext e5
   clear hx hIsR hcell hi1 hp1 hpe hpso hqK hfro HJ0 hbx
   have HO := Lib.hid hlso
   have HOL := Lib.hid hol
   obtain ⟨gA, hgA, hgr, hgw⟩ := gT_spec hlso e5 b5
   have hgAl : gA < w5.heap.size := by obtain ⟨cs, h1⟩ := hgA; exact blk_lt h1
   have HGA := Lib.hid hgA
   have HGR := Lib.hid hgr
   have HGW := Lib.hid hgw
   clear hol hgA hgr hgw
   clear hlso hH
   go_wp2_with fail
   rw [← hw5]
   clear hw5
   refine wp_region_one gA 9 10 (fun v b => ApT w1.heap.size w5.heap.size p (xc) (a * xq) (tsP pso) (.slice ado p capo) v b) [PP.val (.slice ado p capo), PP.val (.pointer (some ⟨wr.heap.size, 0, none⟩)), PP.val (.int .i64 xc), PP.val (.agg #[.bool rb, .slice r1 m1 d1, .slice r2 m2 d2]), PP.val (.pointer (some ⟨wr.heap.size, 1, none⟩)), PP.val (.agg #[.bool b', .slice a1 n1 c1, .slice a2 n2 c2]), PP.frQS (a * xq) (ka + k), PP.frTm (xc) (a * xq), PP.oneT (xc) (a * xq), PP.any, PP.any] [(0, 10, 7)] [9, 8, 7, 6, 5, 4, 3, 2, 1, 0] (by kernel_rfl) (by kernel_rfl) (fun f => (by simp only [fillR, fillL, List.setIfInBounds_toArray, List.set_cons_succ, List.set_cons_zero, Nat.reduceAdd]; rfl)) (by decide) (hgAl) (fun u w1 w2 h hp => hp.ext h) (by intro p hp; simp only [List.mem_cons, List.not_mem_nil, or_false] at hp; rcases hp with rfl | rfl | rfl | rfl | rfl | rfl | rfl | rfl | rfl | rfl | rfl <;> rfl) (fun _ _ => trivial) ?_ ?_ (by decide)
   ·refine ⟨?o0, ?o1, ?o2, ?o3, ?o4, ?o5, ?o6, ?o7, ?o8, ?o9, ?o10, trivial⟩
    case o0 =>
     intro f w7 hG hp hl
     have hE : Ext w5 w7 := hG
     have hS := hE.size
     have l7 : f 10 = .slice ado p capo := hl.1 rfl
     simp only [OpGoal]
     go_simp
     exact ⟨_, rfl, Ext.refl _, rfl⟩
    case o1 =>
     intro f w7 hG hp hl
     have hE : Ext w5 w7 := hG
     have hS := hE.size
     simp only [OpGoal]
     go_simp
     exact ⟨_, rfl, Ext.refl _, rfl⟩
    case o2 =>
     intro f w7 hG hp hl
     have hE : Ext w5 w7 := hG
     have hS := hE.size
     have q19 : f 1 = .pointer (some ⟨wr.heap.size, 0, none⟩) := tellO hp 0 1 rfl rfl
     have hcell := (b5.ext hE).cell 0
     simp only [OpGoal]
     go_simp
     exact ⟨_, rfl, Ext.refl _, rfl⟩
    case o3 =>
     intro f w7 hG hp hl
     have hE : Ext w5 w7 := hG
     have hS := hE.size
     change OpGoal _ _ _ f w7 Ext _
     exact og_load (P := Try.prog) _ _ w.heap.size _ _ _ rfl rfl rfl (B1.ext hE) Try.underlying28 rfl (by kernel_rfl) rfl
    case o4 =>
     intro f w7 hG hp hl
     have hE : Ext w5 w7 := hG
     have hS := hE.size
     simp only [OpGoal]
     go_simp
     exact ⟨_, rfl, Ext.refl _, rfl⟩
    case o5 =>
     intro f w7 hG hp hl
     have hE : Ext w5 w7 := hG
     have hS := hE.size
     have q22 : f 4 = .pointer (some ⟨wr.heap.size, 1, none⟩) := tellO hp 0 4 rfl rfl
     have hbx := b5.ext hE
     have hcell0 := hbx.cell 0
     have hcell1 := hbx.cell 1
     have hcell2 := hbx.cell 2
     have hcell3 := hbx.cell 3
     simp only [OpGoal]
     go_simp
     exact ⟨_, rfl, Ext.refl _, rfl⟩
    case o6 =>
     intro f w7 hG hp hl
     have hE : Ext w5 w7 := hG
     have hS := hE.size
     have q21 : f 3 = .agg #[.bool rb, .slice r1 m1 d1, .slice r2 m2 d2] := tellO hp 0 3 rfl rfl
     have q23 : f 5 = .agg #[.bool b', .slice a1 n1 c1, .slice a2 n2 c2] := tellO hp 1 5 rfl rfl
     change OpGoal _ _ _ f w7 Ext _
     refine og_call (P := Try.prog) _ _ _ #[f 3, f 5] Try.func42 (by kernel_rfl) (by kernel_rfl) rfl rfl (by kernel_rfl) ?_
     rw [q21, q23]
     refine (rmul_calls _ _ a xq ka k _ (HA.out.ext (E5.trans hE)) (HX.out.2.ext (e5.trans hE)) (by omega)).mono ?_
     rintro e w' ⟨v', rfl, h1, h3, h2⟩
     exact ⟨v', rfl, h2, h1.mono hS, h3⟩
    case o7 =>
     intro f w7 hG hp hl
     have hE : Ext w5 w7 := hG
     have hS := hE.size
     have q20 : f 2 = .int .i64 xc := tellO hp 0 2 rfl rfl
     have q24 := tellO hp 1 6 rfl rfl
     obtain ⟨tb, ta1, tn1, tc1, ta2, tn2, tc2, tv, tq⟩ := FrQ.opn (q24.1)
     change OpGoal _ _ _ f w7 Ext _
     simp only [OpGoal]
     go_simp
     exact ⟨_, rfl, Ext.refl _, ⟨xc, tb, ta1, tn1, tc1, ta2, tn2, tc2⟩, rfl, rfl, tq⟩
    case o8 =>
     intro f w7 hG hp hl
     have hE : Ext w5 w7 := hG
     have hS := hE.size
     have q25 := tellO hp 0 7 rfl rfl
     obtain ⟨tt, tv, tc, tq⟩ := q25
     change OpGoal _ _ _ f w7 Ext _
     exact og_buildSlice (P := Try.prog) 107 106 1 4 _ [tmv tt] rfl rfl Try.underlying107 (by kernel_rfl) (by kernel_rfl) (by simp only [Act.eval]; exact congrArg (fun z => [(0, z)]) tv) rfl (by omega) (by omega) (by omega) (strN_tmv [tt]).size (fun w' he hb => ⟨_, tt, hS, rfl, hb, tc, tq.ext he⟩)
    case o9 =>
     intro f w7 hG hp hl
     have hE : Ext w5 w7 := hG
     have hS := hE.size
     have q18 : f 0 = .slice ado p capo := tellO hp 0 0 rfl rfl
     have q26 := tellO hp 1 8 rfl rfl
     have qL : f 0 = .slice ado p capo := tellO hp 0 0 rfl rfl
     obtain ⟨gx, tt, hgx, hvx, hbx, htc, htq⟩ := tellO hp 1 8 rfl rfl
     change OpGoal _ _ _ f w7 (Chg gA) _
     refine og_append (P := Try.prog) _ _ 107 rfl rfl w1.heap.size 106 4 64 Try.underlying107 (by kernel_rfl) (by kernel_rfl) (by omega) (.slice ado p capo) p (flatS ((tsP pso).map tmv)) qL (by have := (HO.out.ext (e5.trans hE)).2; rw [HOL.out] at this; exact this) ⟨gx, 0, none⟩ 1 1 [.int .i64 tt.c, .bool tt.b, .slice tt.a1 tt.n1 tt.c1, .slice tt.a2 tt.n2 tt.c2] hvx rfl (fun j u hj => by rw [addr_add, Nat.zero_add, hbx.cell]; unfold tmv; simpa [Value.cells] using hj) (by intro u hu; simp at hu; rcases hu with rfl | rfl | rfl | rfl <;> rfl) (by omega) (by unfold maxLen; omega) (by omega) (by have := hE.size; omega) (fun v' w' h1 h2 h3 => ⟨HGR.out _ _ h2, ap_fin (by have := HOL.out; rw [List.length_map] at this; exact this) h1 h3 hE.size htc (htq.chg (HGR.out _ _ h2) hgAl)⟩)
    case o10 =>
     intro f w7 hG hp hl
     have hS : w5.heap.size ≤ w7.heap.size := Chg.size hG
     change OpGoal _ _ _ f w7 Ext _
     simp only [OpGoal]
     go_simp
     exact ⟨_, rfl, Ext.refl _, rfl⟩
   ·intro f w7 hC hF1 hmv hp
    clear hp
    obtain ⟨tt, go, co, hv9, hls9, htc9, htq9, hgo9⟩ := id hF1
    have hf9 := (hmv (by decide)).trans hv9
    have hAJ := AxJ.app hE0 HPSO.out HFO.out e5 hC HGA.out (hv9 ▸ hF1) (by omega) (by rcases HGW.out with ⟨-, h⟩ | ⟨-, h⟩ <;> omega) HQK.out
    have HAJ := Lib.hid hAJ
    have B7 : Bx 28 w7 w.heap.size #[.bool rb, .slice r1 m1 d1, .slice r2 m2 d2] := hC.blk B1 (by rcases HGW.out with ⟨-, h⟩ | ⟨-, h⟩ <;> omega)
    have hmm : m ++ scV a (l.take i1) = m ++ scV a (l.take i) ++ [(xc, a * xq)] := by
     rw [HI1.out.1, (take_snoc HX.out.1).1]
     unfold scV
     rw [List.map_append, List.append_assoc]
     rfl
    have HMM2 := Lib.hid hmm
    have hpp : p1 = mn0 + i1 := by have := HI1.out; omega
    rw [hf9]
    clear hF1 hmv hv9 hls9 htc9 htq9 hgo9 hAJ hf9 hmm
    rw [← HI1.out.2.1]
    go_wp2
    go_roundw
    case rel => exact ⟨i1, p1, some ⟨go, 0, none⟩, co, hi1n, rfl, rfl, Lib.hid ⟨hpp, by rw [HMM2.out, HI1.out.2.1]; exact HAJ.out, B7⟩⟩
    case measure => have := HI1.out; simp [intOf]; omega
end Go.Proofs.Ytdmjgjcljbogiaa
/-
 Lists of terms as they are handed in: are two the same; are they great (the documents' functions).
-/
namespace Go.Proofs.Ytdmjgjcljbogiaa
set_option maxRecDepth 100000
set_option maxHeartbeats 1000000
open Go.RowKit
set_option linter.unusedVariables false
set_option linter.unusedSimpArgs false
abbrev RE := Bool × List Nat × List Nat
abbrev TE := Int × RE
def TmE (w : World) (v : Value) (e : TE) : Prop := ∃ b a1 n1 c1 a2 n2 c2, v = .agg #[.int .i64 e.1, .bool b, .slice a1 n1 c1, .slice a2 n2 c2] ∧ RawE w (.agg #[.bool b, .slice a1 n1 c1, .slice a2 n2 c2]) e.2
theorem TmE.ext {w w' : World} {v : Value} {e : TE} (h : TmE w v e) (he : Ext w w') : TmE w' v e := by
 obtain ⟨b, a1, n1, c1, a2, n2, c2, h1, h2⟩ := h
 exact ⟨b, a1, n1, c1, a2, n2, c2, h1, h2.ext he⟩
def TLE (w : World) (u : Value) (l : List TE) : Prop := SL 4 TmE w u l
theorem TLE.ext {w w' : World} {u : Value} {l : List TE} (h : TLE w u l) (he : Ext w w') : TLE w' u l := SL.ext (fun _ _ h => h.ext he) h he
theorem TLE.at {w : World} {u : Value} {l : List TE} (h : TLE w u l) : ∃ ad m cap, m = l.length ∧ u = .slice ad m cap ∧ m ≤ 9223372036854775807 ∧ ∀ (i : Nat) (e : TE), l[i]? = some e → ∃ g off, ad = some ⟨g, off, none⟩ ∧ ∃ b a1 n1 c1 a2 n2 c2, n1 = e.2.2.1.length ∧ n2 = e.2.2.2.length ∧
  (∀ wz, Ext w wz → ∀ (j : Nat) (v : Value), (#[.int .i64 e.1, .bool b, .slice a1 n1 c1, .slice a2 n2 c2] : Array Value)[j]? = some v → wz.cell? ⟨g, off + i * 4 + j, none⟩ = some v) ∧ RawE w (.agg #[.bool b, .slice a1 n1 c1, .slice a2 n2 c2]) e.2 := by
 obtain ⟨ad, m, cap, h1, h2, h3, h4⟩ := h.opn
 refine ⟨ad, m, cap, h1, h2, h3, fun i e hi => ?_⟩
 obtain ⟨g, off, k1, cs, k2, k3, b, a1, n1, c1, a2, n2, c2, j1, j2⟩ := h4 i e hi
 cases j1
 obtain ⟨b1, m1, d1, b2, m2, d2, i1, i2, i3⟩ := RawQ.opn2 j2.1
 cases i3
 exact ⟨g, off, k1, _, _, _, _, _, _, _, i1, i2, k3, j2⟩
theorem cells3 {w : World} {g o : Nat} {x b s t : Value} (h : ∀ wz, Ext w wz → ∀ (j : Nat) (v : Value), (#[x, b, s, t] : Array Value)[j]? = some v → wz.cell? ⟨g, o + j, none⟩ = some v) : ∀ wz, Ext w wz → ∀ (j : Nat) (v : Value), (#[b, s, t] : Array Value)[j]? = some v → wz.cell? ⟨g, o + 1 + j, none⟩ = some v := by
 intro wz hz j v hj
 have := h wz hz (1 + j) v (by
  match j, hj with
  | 0, hj => exact hj
  | 1, hj => exact hj
  | 2, hj => exact hj
  | j + 3, hj => simp at hj)
 rwa [← Nat.add_assoc] at this
theorem TLE.tl {w : World} {u : Value} {l : List TE} (h : TLE w u l) (k : Nat) (hk : 1 ≤ k) (hk2 : k ≤ LIM) (hl : ∀ e ∈ l, e.2.2.1.length + e.2.2.2.length ≤ k) : TL k w u (l.map fun e => (e.1, ratE e.2)) := by
 obtain ⟨ad, cap, h1, h2, h3, h4⟩ := h
 refine ⟨ad, cap, by rw [List.length_map]; exact h1, by rw [List.length_map]; exact h2, h3, ?_⟩
 rcases h4 with h4 | ⟨g, off, h4, h5⟩
 ·exact .inl (by rw [h4]; rfl)
 ·refine .inr ⟨g, off, h4, fun i x hi => ?_⟩
  rw [List.getElem?_map] at hi
  cases he : l[i]? with
  | none => rw [he] at hi; cases hi
  | some e =>
   rw [he] at hi
   simp only [Option.map_some, Option.some.injEq] at hi
   subst hi
   obtain ⟨cs, k1, k2, b, a1, n1, c1, a2, n2, c2, k3, k4⟩ := h5 i e he
   have := hl e (List.mem_of_getElem? he)
   exact ⟨cs, k1, k2, b, a1, n1, c1, a2, n2, c2, k3, k4.1.isR k4.2.1 k4.2.2.1 k (by omega) (by omega) hk hk2⟩
def fmQ (q : Rat) : RE := (decide (q.num < 0), dg W q.num.natAbs, dg W q.den)
def fmV (m : List (Int × Rat)) : List TE := m.map fun x => (x.1, fmQ x.2)
theorem FrQ.rawE {B : Nat} {w : World} {v : Value} {q : Rat} (h : FrQ B w v q) (hs : szQ q ≤ LIM) : RawE w v (fmQ q) := by
 refine ⟨h.raw, (dg_can W_gt _).1, (dg_can W_gt _).1, ?_⟩
 have h1 := Nat.max_le.1 hs
 have h2 : (dg W q.num.natAbs).length ≤ LIM := h1.1
 have h3 : (dg W q.den).length ≤ LIM := h1.2
 rw [LIM_eq] at h2 h3
 show (dg W q.num.natAbs).length + (dg W q.den).length ≤ _
 omega
theorem TO.tle {B k : Nat} {w : World} {v : Value} {m : List (Int × Rat)} (h : TO B k w v m) (hk : k ≤ LIM) : TLE w v (fmV m) := by
 obtain ⟨ts, h1, h2, h3⟩ := h
 obtain ⟨ad, cap, e1, e2, e3, -⟩ := h2.opn
 have hl : (ts.map tmv).length = (fmV m).length := by unfold fmV; simp [h1]
 rw [hl] at e1 e2
 refine ⟨ad, cap, e1, e2, e3, ?_⟩
 rcases Nat.eq_zero_or_pos (fmV m).length with h0 | h0
 ·exact .inl (List.eq_nil_of_length_eq_zero h0)
 ·obtain ⟨g, cap', rest, f1, f2, -⟩ := h2.hold (by omega)
  rw [e1] at f1
  simp only [Value.slice.injEq] at f1
  obtain ⟨f1, -, -⟩ := f1
  refine .inr ⟨g, 0, f1, fun i e hi => ?_⟩
  unfold fmV at hi
  rw [List.getElem?_map] at hi
  cases hx : m[i]? with
  | none => rw [hx] at hi; cases hi
  | some x =>
   rw [hx] at hi
   simp only [Option.map_some, Option.some.injEq] at hi
   subst hi
   obtain ⟨t, ht⟩ : ∃ t, ts[i]? = some t := ⟨_, List.getElem?_eq_getElem (by have := (List.getElem?_eq_some_iff.1 hx).1; omega)⟩
   obtain ⟨c1, c2, c3⟩ := h3 i t x ht hx
   obtain ⟨g', cap2, j1, j2, cs, j3, j4, j5, j6⟩ := h2.at (by omega) (i := i) (u := tmv t) (by rw [List.getElem?_map, ht]; rfl)
   rw [e1] at j1
   simp only [Value.slice.injEq, f1, Option.some.injEq, Addr.mk.injEq] at j1
   obtain ⟨⟨rfl, -⟩, -⟩ := j1
   refine ⟨cs, j4, fun j u hj => ?_, ?_⟩
   ·rw [Nat.zero_add]
    exact (j6 w (Ext.refl w) j u hj).1
   ·unfold tmv at j3
    cases j3
    exact ⟨_, _, _, _, _, _, _, by rw [c1], c2.rawE (by omega)⟩
def OL {α : Type} (t : TypeId) (n B : Nat) (R : World → Value → α → Prop) (w : World) (v : Value) (ys : List α) : Prop := ∃ vs, LS t n B w v vs ∧ vs.length = ys.length ∧ ∀ (i : Nat) (u : Value) (y : α), vs[i]? = some u → ys[i]? = some y → R w u y
theorem LS.ge {e : TypeId} {n B : Nat} {w : World} {v : Value} {vs : List Value} (h : LS e n B w v vs) : ∀ g, v.ownBlock = some g → B ≤ g := by
 intro g hg
 rcases h.2.2 with ⟨h1, h2⟩ | ⟨g', cap, cur, h1, h2, h3, h4⟩
 ·rw [h1] at hg; cases hg
 ·rw [h1] at hg
  simp only [Value.ownBlock, Option.some.injEq] at hg
  subst hg
  exact h2
theorem OL.nil {α : Type} (t : TypeId) (n B : Nat) (R : World → Value → α → Prop) (w : World) : OL t n B R w (.slice none 0 0) [] := ⟨[], LS.nil _ _ _ _, rfl, fun i u y h => by simp at h⟩
theorem OL.ext {α : Type} {t : TypeId} {n B : Nat} {R : World → Value → α → Prop} {w w' : World} {v : Value} {ys : List α} (h : OL t n B R w v ys) (he : Ext w w') (hR : ∀ u y, R w u y → R w' u y) : OL t n B R w' v ys := by
 obtain ⟨vs, h1, h2, h3⟩ := h
 exact ⟨vs, h1.ext he, h2, fun i u y a b => hR u y (h3 i u y a b)⟩
theorem OL.app {α : Type} {t : TypeId} {n B : Nat} {R : World → Value → α → Prop} {w w' : World} {v' : Value} {vs : List Value} {ys : List α} {u : Value} {y : α} (h2 : vs.length = ys.length) (h3 : ∀ (i : Nat) (u : Value) (y : α), vs[i]? = some u → ys[i]? = some y → R w u y) (hLS : LS t n B w' v' (vs ++ [u])) (hR : ∀ u y, R w u y → R w' u y) (hn : R w' u y) : OL t n B R w' v' (ys ++ [y]) := by
 refine ⟨_, hLS, by simp [h2], fun i a b ha hb => ?_⟩
 rcases Nat.lt_or_ge i vs.length with hi | hi
 ·rw [List.getElem?_append_left hi] at ha
  rw [List.getElem?_append_left (by omega)] at hb
  exact hR _ _ (h3 i a b ha hb)
 ·rw [List.getElem?_append_right hi] at ha
  rw [List.getElem?_append_right (by omega), ← h2] at hb
  cases hz : i - vs.length with
  | zero =>
   rw [hz] at ha hb
   simp at ha hb
   subst ha hb
   exact hn
  | succ k => rw [hz] at ha; simp at ha
theorem OL.sl {α : Type} {t : TypeId} {n B : Nat} {R : World → Value → α → Prop} {w : World} {v : Value} {ys : List α} (h : OL t n B R w v ys) (hn : 0 < n) : SL n R w v ys := by
 obtain ⟨vs, h2, hl, h3⟩ := h
 obtain ⟨ad, cap, e1, e2, e3, -⟩ := h2.opn
 rw [hl] at e1 e2
 refine ⟨ad, cap, e1, e2, e3, ?_⟩
 rcases Nat.eq_zero_or_pos ys.length with h0 | h0
 ·exact .inl (List.eq_nil_of_length_eq_zero h0)
 ·obtain ⟨g, cap', rest, f1, f2, -⟩ := h2.hold (by omega)
  rw [e1] at f1
  simp only [Value.slice.injEq] at f1
  obtain ⟨f1, -, -⟩ := f1
  refine .inr ⟨g, 0, f1, fun i y hi => ?_⟩
  obtain ⟨u, hu⟩ : ∃ u, vs[i]? = some u := ⟨_, List.getElem?_eq_getElem (by have := (List.getElem?_eq_some_iff.1 hi).1; omega)⟩
  obtain ⟨g', cap2, j1, j2, cs, j3, j4, j5, j6⟩ := h2.at hn hu
  rw [e1] at j1
  simp only [Value.slice.injEq, f1, Option.some.injEq, Addr.mk.injEq] at j1
  obtain ⟨⟨rfl, -⟩, -⟩ := j1
  refine ⟨cs, j4, fun j x hj => ?_, j3 ▸ h3 i u y hu hi⟩
  rw [Nat.zero_add]
  exact (j6 w (Ext.refl w) j x hj).1
theorem SL.map {α : Type} {n : Nat} {R R' : World → Value → α → Prop} {w : World} {v : Value} {ys : List α} (h : SL n R w v ys) (hR : ∀ u y, R w u y → R' w u y) : SL n R' w v ys := by
 obtain ⟨ad, cap, e1, e2, e3, e4⟩ := h
 refine ⟨ad, cap, e1, e2, e3, ?_⟩
 rcases e4 with e4 | ⟨g, off, e4, e5⟩
 ·exact .inl e4
 ·exact .inr ⟨g, off, e4, fun i y hi => (let ⟨cs, a, b, c⟩ := e5 i y hi; ⟨cs, a, b, hR _ _ c⟩)⟩
theorem TLE.none (w : World) (c : Nat) (hc : c ≤ 9223372036854775807) : TLE w (.slice Option.none 0 c) [] := ⟨Option.none, c, rfl, by simp, hc, .inl rfl⟩
set_option maxHeartbeats 4000000 in
theorem vsame_calls (v u : Value) (l m : List TE) (w : World) (hv : TLE w v l) (hu : TLE w u m) :
  Calls Try.prog 95 #[v, u] w fun e w' => e = .returned (.bool (decide (l = m))) ∧ Ext w w' := by
 obtain ⟨ad, n, cap, hn, rfl, hn1, hat⟩ := hv.at
 obtain ⟨ad2, n2, cap2, hm, rfl, hm1, hat2⟩ := hu.at
 have HN := Lib.hid hn
 have HM := Lib.hid hm
 have HAT := Lib.hid hat
 have HAT2 := Lib.hid hat2
 clear hn hm hat hat2 hv hu
 go_enter Try.func95, Try.ntmps95
 by_cases hnm : n = n2
 ·subst hnm
  have hz : ¬ ((n : Int) ≠ (n : Int)) := by simp
  go_wp2_with fail
  go_loopw [5] (fun s wr => ∃ i : Nat, i ≤ n ∧ s = .int .i64 (i : Int) ∧ Hid (l.take i = m.take i) ∧ Ext w wr) (fun s _ => ((n : Int) - intOf s).toNat)
  case atStart => exact ⟨0, Nat.zero_le _, rfl, Lib.hid rfl, Ext.refl _⟩
  case round =>
   obtain ⟨i, hi, rfl, hT, hE0⟩ := hrel
   rcases Nat.eq_or_lt_of_le hi with hin | hin
   ·subst hin
    have hlt : ¬ ((i : Int) < (i : Int)) := by omega
    have he : l = m := by have := hT.out; rwa [HN.out, List.take_length, ← HN.out, HM.out, List.take_length] at this
    have HR := Lib.hid (decide_eq_true he)
    clear he
    go_wp2
    go_ret
    exact ⟨by rw [HR.out] <;> rfl, hE0⟩
   ·have hlt : (i : Int) < (n : Int) := by omega
    obtain ⟨⟨xc, xe⟩, hx⟩ : ∃ x, l[i]? = some x := ⟨_, List.getElem?_eq_getElem (by rw [← HN.out]; exact hin)⟩
    obtain ⟨⟨yc, ye⟩, hy⟩ : ∃ x, m[i]? = some x := ⟨_, List.getElem?_eq_getElem (by rw [← HM.out]; exact hin)⟩
    obtain ⟨g, off, rfl, b1, a1, n1, c1, a2, n2, c2, -, -, hc, hR⟩ := HAT.out i _ hx
    obtain ⟨g', off', rfl, b1', a1', n1', c1', a2', n2', c2', -, -, hc', hR'⟩ := HAT2.out i _ hy
    simp only at hc hR hc' hR'
    have HC3 := Lib.hid (cells3 hc)
    have HC3' := Lib.hid (cells3 hc')
    have HC0 : Hid (∀ wz, Ext w wz → wz.cell? ⟨g, off + i * 4, none⟩ = some (.int .i64 xc)) := Lib.hid fun wz hz => hc wz hz 0 _ rfl
    have HC0' : Hid (∀ wz, Ext w wz → wz.cell? ⟨g', off' + i * 4, none⟩ = some (.int .i64 yc)) := Lib.hid fun wz hz => hc' wz hz 0 _ rfl
    have HR := Lib.hid hR
    have HR' := Lib.hid hR'
    have HXY := Lib.hid (And.intro hx hy)
    obtain ⟨xb, xs, xt⟩ := xe
    obtain ⟨yb, ys, yt⟩ := ye
    clear hc hc' hR hR' hx hy
    by_cases hxy : xc = yc
    ·subst hxy
     obtain ⟨s, hs⟩ : ∃ s : Bool, s = decide ((xb = yb ∧ xs = ys) ∧ xt = yt) := ⟨_, rfl⟩
     have HS := Lib.hid hs
     clear hs
     go_wp2_with fail
     refine wp_region_puts [] [PP.val (.slice (some ⟨g, off, none⟩) n cap), PP.val (.int .i64 (i : Int)), PP.val (.pointer (some ⟨g, off + i * 4, none⟩)), PP.val (.pointer (some ⟨g, off + i * 4, none⟩)), PP.val (.int .i64 xc), PP.val (.slice (some ⟨g', off', none⟩) n cap2), PP.val (.int .i64 (i : Int)), PP.val (.pointer (some ⟨g', off' + i * 4, none⟩)), PP.val (.pointer (some ⟨g', off' + i * 4, none⟩)), PP.val (.int .i64 xc), PP.val (.bool false), PP.val (.bool false), PP.val (.slice (some ⟨g, off, none⟩) n cap), PP.val (.int .i64 (i : Int)), PP.val (.pointer (some ⟨g, off + i * 4, none⟩)), PP.val (.pointer (some ⟨g, off + i * 4 + 1, none⟩)), PP.val (.agg #[.bool b1, .slice a1 n1 c1, .slice a2 n2 c2]), PP.val (.slice (some ⟨g', off', none⟩) n cap2), PP.val (.int .i64 (i : Int)), PP.val (.pointer (some ⟨g', off' + i * 4, none⟩)), PP.val (.pointer (some ⟨g', off' + i * 4 + 1, none⟩)), PP.val (.agg #[.bool b1', .slice a1' n1' c1', .slice a2' n2' c2']), PP.val (.bool s), PP.val (.bool (!s)), PP.val (.bool (!s))] [] [0, 1, 2, 3, 4, 5, 6, 7, 8, 9, 10, 11, 12, 13, 14, 15, 16, 17, 18, 19, 20, 21, 22, 23, 24]
      (by kernel_rfl) (by kernel_rfl) (fun f => (by simp only [fillR, fillL, List.setIfInBounds_toArray, List.set_cons_succ, List.set_cons_zero, Nat.reduceAdd]; rfl)) ?_ ?_ ?_ ?_ ?_
     ·intro x hx; cases hx
     ·intro x hx; cases hx
     ·intro x hx; cases hx
     ·refine ⟨?o0, ?o1, ?o2, ?o3, ?o4, ?o5, ?o6, ?o7, ?o8, ?o9, ?o10, ?o11, ?o12, ?o13, ?o14, ?o15, ?o16, ?o17, ?o18, ?o19, ?o20, ?o21, ?o22, ?o23, ?o24, trivial⟩
      case o0 =>
       intro f w6 hG hp hl
       have hE : Ext wr w6 := hG
       have hS := hE.size
       simp only [OpGoal]
       go_simp
       exact ⟨_, rfl, Ext.refl _, rfl⟩
      case o1 =>
       intro f w6 hG hp hl
       have hE : Ext wr w6 := hG
       have hS := hE.size
       simp only [OpGoal]
       go_simp
       exact ⟨_, rfl, Ext.refl _, rfl⟩
      case o2 =>
       intro f w6 hG hp hl
       have hE : Ext wr w6 := hG
       have hS := hE.size
       have q17 : f 0 = .slice (some ⟨g, off, none⟩) n cap := tellV hp 0 0 rfl rfl (fun h => by cases h)
       have q18 : f 1 = .int .i64 (i : Int) := tellV hp 1 1 rfl rfl (fun h => by cases h)
       simp only [OpGoal]
       go_simp
       exact ⟨_, rfl, Ext.refl _, rfl⟩
      case o3 =>
       intro f w6 hG hp hl
       have hE : Ext wr w6 := hG
       have hS := hE.size
       have q19 : f 2 = .pointer (some ⟨g, off + i * 4, none⟩) := tellV hp 0 2 rfl rfl (fun h => by cases h)
       simp only [OpGoal]
       go_simp
       exact ⟨_, rfl, Ext.refl _, rfl⟩
      case o4 =>
       intro f w6 hG hp hl
       have hE : Ext wr w6 := hG
       have hS := hE.size
       have q20 : f 3 = .pointer (some ⟨g, off + i * 4, none⟩) := tellV hp 0 3 rfl rfl (fun h => by cases h)
       have hcell := HC0.out _ (hE0.trans hE)
       simp only [OpGoal]
       go_simp
       exact ⟨_, rfl, Ext.refl _, rfl⟩
      case o5 =>
       intro f w6 hG hp hl
       have hE : Ext wr w6 := hG
       have hS := hE.size
       simp only [OpGoal]
       go_simp
       exact ⟨_, rfl, Ext.refl _, rfl⟩
      case o6 =>
       intro f w6 hG hp hl
       have hE : Ext wr w6 := hG
       have hS := hE.size
       simp only [OpGoal]
       go_simp
       exact ⟨_, rfl, Ext.refl _, rfl⟩
      case o7 =>
       intro f w6 hG hp hl
       have hE : Ext wr w6 := hG
       have hS := hE.size
       have q22 : f 5 = .slice (some ⟨g', off', none⟩) n cap2 := tellV hp 0 5 rfl rfl (fun h => by cases h)
       have q23 : f 6 = .int .i64 (i : Int) := tellV hp 1 6 rfl rfl (fun h => by cases h)
       simp only [OpGoal]
       go_simp
       exact ⟨_, rfl, Ext.refl _, rfl⟩
      case o8 =>
       intro f w6 hG hp hl
       have hE : Ext wr w6 := hG
       have hS := hE.size
       have q24 : f 7 = .pointer (some ⟨g', off' + i * 4, none⟩) := tellV hp 0 7 rfl rfl (fun h => by cases h)
       simp only [OpGoal]
       go_simp
       exact ⟨_, rfl, Ext.refl _, rfl⟩
      case o9 =>
       intro f w6 hG hp hl
       have hE : Ext wr w6 := hG
       have hS := hE.size
       have q25 : f 8 = .pointer (some ⟨g', off' + i * 4, none⟩) := tellV hp 0 8 rfl rfl (fun h => by cases h)
       have hcell := HC0'.out _ (hE0.trans hE)
       simp only [OpGoal]
       go_simp
       exact ⟨_, rfl, Ext.refl _, rfl⟩
      case o10 =>
       intro f w6 hG hp hl
       have hE : Ext wr w6 := hG
       have hS := hE.size
       have q21 : f 4 = .int .i64 xc := tellV hp 0 4 rfl rfl (fun h => by cases h)
       have q26 : f 9 = .int .i64 xc := tellV hp 1 9 rfl rfl (fun h => by cases h)
       simp only [OpGoal]
       go_simp
       first
       | exact ⟨_, rfl, Ext.refl _, rfl⟩
       | exact ⟨_, rfl, Ext.refl _, congrArg Value.bool (by simp)⟩
      case o11 =>
       intro f w6 hG hp hl
       have hE : Ext wr w6 := hG
       have hS := hE.size
       have q27 : f 10 = .bool false := tellV hp 0 10 rfl rfl (fun h => by cases h)
       simp only [OpGoal]
       go_simp
       exact ⟨_, rfl, Ext.refl _, rfl⟩
      case o12 =>
       intro f w6 hG hp hl
       have hE : Ext wr w6 := hG
       have hS := hE.size
       have qg : f 11 = .bool false := tellV hp 0 11 rfl rfl (fun h => by cases h)
       change OpGoal _ _ _ f w6 Ext _
       refine og_guard (j := 11) (want := false) rfl qg ?_
       simp only [OpGoal]
       go_simp
       exact ⟨_, rfl, Ext.refl _, rfl⟩
      case o13 =>
       intro f w6 hG hp hl
       have hE : Ext wr w6 := hG
       have hS := hE.size
       have qg : f 11 = .bool false := tellV hp 0 11 rfl rfl (fun h => by cases h)
       change OpGoal _ _ _ f w6 Ext _
       refine og_guard (j := 11) (want := false) rfl qg ?_
       simp only [OpGoal]
       go_simp
       exact ⟨_, rfl, Ext.refl _, rfl⟩
      case o14 =>
       intro f w6 hG hp hl
       have hE : Ext wr w6 := hG
       have hS := hE.size
       have q29 : f 12 = .slice (some ⟨g, off, none⟩) n cap := tellV hp 0 12 rfl rfl (fun h => by cases h)
       have q30 : f 13 = .int .i64 (i : Int) := tellV hp 1 13 rfl rfl (fun h => by cases h)
       have qg : f 11 = .bool false := tellV hp 2 11 rfl rfl (fun h => by cases h)
       change OpGoal _ _ _ f w6 Ext _
       refine og_guard (j := 11) (want := false) rfl qg ?_
       simp only [OpGoal]
       go_simp
       exact ⟨_, rfl, Ext.refl _, rfl⟩
      case o15 =>
       intro f w6 hG hp hl
       have hE : Ext wr w6 := hG
       have hS := hE.size
       have q31 : f 14 = .pointer (some ⟨g, off + i * 4, none⟩) := tellV hp 0 14 rfl rfl (fun h => by cases h)
       have qg : f 11 = .bool false := tellV hp 1 11 rfl rfl (fun h => by cases h)
       change OpGoal _ _ _ f w6 Ext _
       refine og_guard (j := 11) (want := false) rfl qg ?_
       simp only [OpGoal]
       go_simp
       exact ⟨_, rfl, Ext.refl _, rfl⟩
      case o16 =>
       intro f w6 hG hp hl
       have hE : Ext wr w6 := hG
       have hS := hE.size
       have q32 : f 15 = .pointer (some ⟨g, off + i * 4 + 1, none⟩) := tellV hp 0 15 rfl rfl (fun h => by cases h)
       have qg : f 11 = .bool false := tellV hp 1 11 rfl rfl (fun h => by cases h)
       change OpGoal _ _ _ f w6 Ext _
       refine og_guard (j := 11) (want := false) rfl qg ?_
       exact og_loadAt (P := Try.prog) _ _ g (off + i * 4 + 1) _ _ rfl rfl q32 (fun j v h => HC3.out _ (hE0.trans hE) j v h) Try.underlying28 rfl (by kernel_rfl) rfl
      case o17 =>
       intro f w6 hG hp hl
       have hE : Ext wr w6 := hG
       have hS := hE.size
       have qg : f 11 = .bool false := tellV hp 0 11 rfl rfl (fun h => by cases h)
       change OpGoal _ _ _ f w6 Ext _
       refine og_guard (j := 11) (want := false) rfl qg ?_
       simp only [OpGoal]
       go_simp
       exact ⟨_, rfl, Ext.refl _, rfl⟩
      case o18 =>
       intro f w6 hG hp hl
       have hE : Ext wr w6 := hG
       have hS := hE.size
       have qg : f 11 = .bool false := tellV hp 0 11 rfl rfl (fun h => by cases h)
       change OpGoal _ _ _ f w6 Ext _
       refine og_guard (j := 11) (want := false) rfl qg ?_
       simp only [OpGoal]
       go_simp
       exact ⟨_, rfl, Ext.refl _, rfl⟩
      case o19 =>
       intro f w6 hG hp hl
       have hE : Ext wr w6 := hG
       have hS := hE.size
       have q34 : f 17 = .slice (some ⟨g', off', none⟩) n cap2 := tellV hp 0 17 rfl rfl (fun h => by cases h)
       have q35 : f 18 = .int .i64 (i : Int) := tellV hp 1 18 rfl rfl (fun h => by cases h)
       have qg : f 11 = .bool false := tellV hp 2 11 rfl rfl (fun h => by cases h)
       change OpGoal _ _ _ f w6 Ext _
       refine og_guard (j := 11) (want := false) rfl qg ?_
       simp only [OpGoal]
       go_simp
       exact ⟨_, rfl, Ext.refl _, rfl⟩
      case o20 =>
       intro f w6 hG hp hl
       have hE : Ext wr w6 := hG
       have hS := hE.size
       have q36 : f 19 = .pointer (some ⟨g', off' + i * 4, none⟩) := tellV hp 0 19 rfl rfl (fun h => by cases h)
       have qg : f 11 = .bool false := tellV hp 1 11 rfl rfl (fun h => by cases h)
       change OpGoal _ _ _ f w6 Ext _
       refine og_guard (j := 11) (want := false) rfl qg ?_
       simp only [OpGoal]
       go_simp
       exact ⟨_, rfl, Ext.refl _, rfl⟩
      case o21 =>
       intro f w6 hG hp hl
       have hE : Ext wr w6 := hG
       have hS := hE.size
       have q37 : f 20 = .pointer (some ⟨g', off' + i * 4 + 1, none⟩) := tellV hp 0 20 rfl rfl (fun h => by cases h)
       have qg : f 11 = .bool false := tellV hp 1 11 rfl rfl (fun h => by cases h)
       change OpGoal _ _ _ f w6 Ext _
       refine og_guard (j := 11) (want := false) rfl qg ?_
       exact og_loadAt (P := Try.prog) _ _ g' (off' + i * 4 + 1) _ _ rfl rfl q37 (fun j v h => HC3'.out _ (hE0.trans hE) j v h) Try.underlying28 rfl (by kernel_rfl) rfl
      case o22 =>
       intro f w6 hG hp hl
       have hE : Ext wr w6 := hG
       have hS := hE.size
       have q33 : f 16 = .agg #[.bool b1, .slice a1 n1 c1, .slice a2 n2 c2] := tellV hp 0 16 rfl rfl (fun h => by cases h)
       have q38 : f 21 = .agg #[.bool b1', .slice a1' n1' c1', .slice a2' n2' c2'] := tellV hp 1 21 rfl rfl (fun h => by cases h)
       have qg : f 11 = .bool false := tellV hp 2 11 rfl rfl (fun h => by cases h)
       change OpGoal _ _ _ f w6 Ext _
       refine og_guard (j := 11) (want := false) rfl qg ?_
       change OpGoal _ _ _ f w6 Ext _
       refine og_call (P := Try.prog) _ _ _ #[f 16, f 21] Try.func15 (by kernel_rfl) (by kernel_rfl) rfl rfl (by kernel_rfl) ?_
       rw [q33, q38]
       refine (rqsame3_calls _ _ xb yb xs xt ys yt _ ((HR.out.1).ext (hE0.trans hE)) ((HR'.out.1).ext (hE0.trans hE))).mono ?_
       rintro e w' ⟨rfl, h2⟩
       exact ⟨_, rfl, h2, congrArg Value.bool HS.out.symm⟩
      case o23 =>
       intro f w6 hG hp hl
       have hE : Ext wr w6 := hG
       have hS := hE.size
       have q39 : f 22 = .bool s := tellV hp 0 22 rfl rfl (fun h => by cases h)
       have qg : f 11 = .bool false := tellV hp 1 11 rfl rfl (fun h => by cases h)
       change OpGoal _ _ _ f w6 Ext _
       refine og_guard (j := 11) (want := false) rfl qg ?_
       simp only [OpGoal]
       go_simp
       exact ⟨_, rfl, Ext.refl _, rfl⟩
      case o24 =>
       intro f w6 hG hp hl
       have hE : Ext wr w6 := hG
       have hS := hE.size
       have q28 : f 11 = .bool false := tellV hp 0 11 rfl rfl (fun h => by cases h)
       have q40 : f 23 = .bool (!s) := tellV hp 1 23 rfl rfl (fun h => by cases h)
       simp only [OpGoal]
       go_simp
       exact ⟨_, rfl, Ext.refl _, rfl⟩
     ·intro f w6 hG hp
      have hE : Ext wr w6 := ChgS.nil hG
      have q41 : f 24 = .bool (!s) := endV hp 24 (by decide) rfl (fun h => by cases h)
      try simp only [q41]
      clear hp
      cases s with
      | true =>
       have ht : l.take (i + 1) = m.take (i + 1) := by
        have h1 := HS.out
        have h2 := of_decide_eq_true h1.symm
        rw [List.take_add_one, List.take_add_one, HXY.out.1, HXY.out.2, hT.out, h2.1.1, h2.1.2, h2.2]
       have HT := Lib.hid ht
       clear ht
       go_wp2
       go_roundw
       case rel => exact ⟨i + 1, by omega, congrArg (Value.int .i64) (by omega), HT, hE0.trans hE⟩
       case measure => simp [intOf]; omega
      | false =>
       have he : l ≠ m := fun h => by
        have h1 := of_decide_eq_false HS.out.symm
        have h2 := HXY.out.1.symm.trans ((congrArg (fun z => z[i]?) h).trans HXY.out.2)
        simp only [Option.some.injEq, Prod.mk.injEq, true_and] at h2
        exact h1 ⟨⟨h2.1, h2.2.1⟩, h2.2.2⟩
       have HR := Lib.hid (decide_eq_false he)
       clear he
       go_wp2
       go_ret
       exact ⟨by rw [HR.out] <;> rfl, hE0.trans hE⟩
    ·have he : l ≠ m := fun h => by
      have h2 := HXY.out.1.symm.trans ((congrArg (fun z => z[i]?) h).trans HXY.out.2)
      simp only [Option.some.injEq, Prod.mk.injEq] at h2
      exact hxy h2.1
     have HR := Lib.hid (decide_eq_false he)
     have HXN := Lib.hid hxy
     clear he hxy
     go_wp2_with fail
     refine wp_region_puts [] [PP.val (.slice (some ⟨g, off, none⟩) n cap), PP.val (.int .i64 (i : Int)), PP.val (.pointer (some ⟨g, off + i * 4, none⟩)), PP.val (.pointer (some ⟨g, off + i * 4, none⟩)), PP.val (.int .i64 xc), PP.val (.slice (some ⟨g', off', none⟩) n cap2), PP.val (.int .i64 (i : Int)), PP.val (.pointer (some ⟨g', off' + i * 4, none⟩)), PP.val (.pointer (some ⟨g', off' + i * 4, none⟩)), PP.val (.int .i64 yc), PP.val (.bool true), PP.val (.bool true), PP.any, PP.any, PP.any, PP.any, PP.any, PP.any, PP.any, PP.any, PP.any, PP.any, PP.any, PP.any, PP.val (.bool true)] [] [0, 1, 2, 3, 4, 5, 6, 7, 8, 9, 10, 11, 12, 13, 14, 15, 16, 17, 18, 19, 20, 21, 22, 23, 24]
      (by kernel_rfl) (by kernel_rfl) (fun f => (by simp only [fillR, fillL, List.setIfInBounds_toArray, List.set_cons_succ, List.set_cons_zero, Nat.reduceAdd]; rfl)) ?_ ?_ ?_ ?_ ?_
     ·intro x hx; cases hx
     ·intro x hx; cases hx
     ·intro x hx; cases hx
     ·refine ⟨?o0, ?o1, ?o2, ?o3, ?o4, ?o5, ?o6, ?o7, ?o8, ?o9, ?o10, ?o11, ?o12, ?o13, ?o14, ?o15, ?o16, ?o17, ?o18, ?o19, ?o20, ?o21, ?o22, ?o23, ?o24, trivial⟩
      case o0 =>
       intro f w6 hG hp hl
       have hE : Ext wr w6 := hG
       have hS := hE.size
       simp only [OpGoal]
       go_simp
       exact ⟨_, rfl, Ext.refl _, rfl⟩
      case o1 =>
       intro f w6 hG hp hl
       have hE : Ext wr w6 := hG
       have hS := hE.size
       simp only [OpGoal]
       go_simp
       exact ⟨_, rfl, Ext.refl _, rfl⟩
      case o2 =>
       intro f w6 hG hp hl
       have hE : Ext wr w6 := hG
       have hS := hE.size
       have q17 : f 0 = .slice (some ⟨g, off, none⟩) n cap := tellV hp 0 0 rfl rfl (fun h => by cases h)
       have q18 : f 1 = .int .i64 (i : Int) := tellV hp 1 1 rfl rfl (fun h => by cases h)
       simp only [OpGoal]
       go_simp
       exact ⟨_, rfl, Ext.refl _, rfl⟩
      case o3 =>
       intro f w6 hG hp hl
       have hE : Ext wr w6 := hG
       have hS := hE.size
       have q19 : f 2 = .pointer (some ⟨g, off + i * 4, none⟩) := tellV hp 0 2 rfl rfl (fun h => by cases h)
       simp only [OpGoal]
       go_simp
       exact ⟨_, rfl, Ext.refl _, rfl⟩
      case o4 =>
       intro f w6 hG hp hl
       have hE : Ext wr w6 := hG
       have hS := hE.size
       have q20 : f 3 = .pointer (some ⟨g, off + i * 4, none⟩) := tellV hp 0 3 rfl rfl (fun h => by cases h)
       have hcell := HC0.out _ (hE0.trans hE)
       simp only [OpGoal]
       go_simp
       exact ⟨_, rfl, Ext.refl _, rfl⟩
      case o5 =>
       intro f w6 hG hp hl
       have hE : Ext wr w6 := hG
       have hS := hE.size
       simp only [OpGoal]
       go_simp
       exact ⟨_, rfl, Ext.refl _, rfl⟩
      case o6 =>
       intro f w6 hG hp hl
       have hE : Ext wr w6 := hG
       have hS := hE.size
       simp only [OpGoal]
       go_simp
       exact ⟨_, rfl, Ext.refl _, rfl⟩
      case o7 =>
       intro f w6 hG hp hl
       have hE : Ext wr w6 := hG
       have hS := hE.size
       have q22 : f 5 = .slice (some ⟨g', off', none⟩) n cap2 := tellV hp 0 5 rfl rfl (fun h => by cases h)
       have q23 : f 6 = .int .i64 (i : Int) := tellV hp 1 6 rfl rfl (fun h => by cases h)
       simp only [OpGoal]
       go_simp
       exact ⟨_, rfl, Ext.refl _, rfl⟩
      case o8 =>
       intro f w6 hG hp hl
       have hE : Ext wr w6 := hG
       have hS := hE.size
       have q24 : f 7 = .pointer (some ⟨g', off' + i * 4, none⟩) := tellV hp 0 7 rfl rfl (fun h => by cases h)
       simp only [OpGoal]
       go_simp
       exact ⟨_, rfl, Ext.refl _, rfl⟩
      case o9 =>
       intro f w6 hG hp hl
       have hE : Ext wr w6 := hG
       have hS := hE.size
       have q25 : f 8 = .pointer (some ⟨g', off' + i * 4, none⟩) := tellV hp 0 8 rfl rfl (fun h => by cases h)
       have hcell := HC0'.out _ (hE0.trans hE)
       simp only [OpGoal]
       go_simp
       exact ⟨_, rfl, Ext.refl _, rfl⟩
      case o10 =>
       intro f w6 hG hp hl
       have hE : Ext wr w6 := hG
       have hS := hE.size
       have q21 : f 4 = .int .i64 xc := tellV hp 0 4 rfl rfl (fun h => by cases h)
       have q26 : f 9 = .int .i64 yc := tellV hp 1 9 rfl rfl (fun h => by cases h)
       have hxn := HXN.out
       simp only [OpGoal]
       go_simp
       first
       | exact ⟨_, rfl, Ext.refl _, rfl⟩
       | exact ⟨_, rfl, Ext.refl _, congrArg Value.bool (by simp [HXN.out])⟩
      case o11 =>
       intro f w6 hG hp hl
       have hE : Ext wr w6 := hG
       have hS := hE.size
       have q27 : f 10 = .bool true := tellV hp 0 10 rfl rfl (fun h => by cases h)
       simp only [OpGoal]
       go_simp
       exact ⟨_, rfl, Ext.refl _, rfl⟩
      case o12 =>
       intro f w6 hG hp hl
       have hE : Ext wr w6 := hG
       have hS := hE.size
       have qg : f 11 = .bool true := tellV hp 0 11 rfl rfl (fun h => by cases h)
       exact og_skip rfl qg (by decide) trivial
      case o13 =>
       intro f w6 hG hp hl
       have hE : Ext wr w6 := hG
       have hS := hE.size
       have qg : f 11 = .bool true := tellV hp 0 11 rfl rfl (fun h => by cases h)
       exact og_skip rfl qg (by decide) trivial
      case o14 =>
       intro f w6 hG hp hl
       have hE : Ext wr w6 := hG
       have hS := hE.size
       have qg : f 11 = .bool true := tellV hp 2 11 rfl rfl (fun h => by cases h)
       exact og_skip rfl qg (by decide) trivial
      case o15 =>
       intro f w6 hG hp hl
       have hE : Ext wr w6 := hG
       have hS := hE.size
       have qg : f 11 = .bool true := tellV hp 1 11 rfl rfl (fun h => by cases h)
       exact og_skip rfl qg (by decide) trivial
      case o16 =>
       intro f w6 hG hp hl
       have hE : Ext wr w6 := hG
       have hS := hE.size
       have qg : f 11 = .bool true := tellV hp 1 11 rfl rfl (fun h => by cases h)
       exact og_skip rfl qg (by decide) trivial
      case o17 =>
       intro f w6 hG hp hl
       have hE : Ext wr w6 := hG
       have hS := hE.size
       have qg : f 11 = .bool true := tellV hp 0 11 rfl rfl (fun h => by cases h)
       exact og_skip rfl qg (by decide) trivial
      case o18 =>
       intro f w6 hG hp hl
       have hE : Ext wr w6 := hG
       have hS := hE.size
       have qg : f 11 = .bool true := tellV hp 0 11 rfl rfl (fun h => by cases h)
       exact og_skip rfl qg (by decide) trivial
      case o19 =>
       intro f w6 hG hp hl
       have hE : Ext wr w6 := hG
       have hS := hE.size
       have qg : f 11 = .bool true := tellV hp 2 11 rfl rfl (fun h => by cases h)
       exact og_skip rfl qg (by decide) trivial
      case o20 =>
       intro f w6 hG hp hl
       have hE : Ext wr w6 := hG
       have hS := hE.size
       have qg : f 11 = .bool true := tellV hp 1 11 rfl rfl (fun h => by cases h)
       exact og_skip rfl qg (by decide) trivial
      case o21 =>
       intro f w6 hG hp hl
       have hE : Ext wr w6 := hG
       have hS := hE.size
       have qg : f 11 = .bool true := tellV hp 1 11 rfl rfl (fun h => by cases h)
       exact og_skip rfl qg (by decide) trivial
      case o22 =>
       intro f w6 hG hp hl
       have hE : Ext wr w6 := hG
       have hS := hE.size
       have qg : f 11 = .bool true := tellV hp 2 11 rfl rfl (fun h => by cases h)
       exact og_skip rfl qg (by decide) trivial
      case o23 =>
       intro f w6 hG hp hl
       have hE : Ext wr w6 := hG
       have hS := hE.size
       have qg : f 11 = .bool true := tellV hp 1 11 rfl rfl (fun h => by cases h)
       exact og_skip rfl qg (by decide) trivial
      case o24 =>
       intro f w6 hG hp hl
       have hE : Ext wr w6 := hG
       have hS := hE.size
       have q28 : f 11 = .bool true := tellV hp 0 11 rfl rfl (fun h => by cases h)
       simp only [OpGoal]
       go_simp
       exact ⟨_, rfl, Ext.refl _, rfl⟩
     ·intro f w6 hG hp
      have hE : Ext wr w6 := ChgS.nil hG
      have q41 : f 24 = .bool true := endV hp 24 (by decide) rfl (fun h => by cases h)
      try simp only [q41]
      clear hp
      go_wp2
      go_ret
      exact ⟨by rw [HR.out] <;> rfl, hE0.trans hE⟩
 ·have he : l ≠ m := fun h => hnm (by rw [HN.out, HM.out, h])
  have hz : (n : Int) ≠ (n2 : Int) := by omega
  have HR := Lib.hid (decide_eq_false he)
  clear he
  go_wp2
  go_ret
  exact ⟨by rw [HR.out] <;> rfl, Ext.refl _⟩
end Go.Proofs.Ytdmjgjcljbogiaa
/-
 Are lists of terms, of numbers great (the documents' functions)?
-/
namespace Go.Proofs.Ytdmjgjcljbogiaa
set_option maxRecDepth 100000
set_option maxHeartbeats 1000000
open Go.RowKit
set_option linter.unusedVariables false
set_option linter.unusedSimpArgs false
def lightW : List Nat → Bool
 | [] => true
 | [x] => decide (x < 65536)
 | _ => false
def wordsE (e : RE) : Nat := e.2.1.length + e.2.2.length
def heavyE (e : RE) : Nat := if lightW e.2.1 && lightW e.2.2 then 0 else wordsE e
def weightE : List RE → Nat
 | [] => 0
 | e :: l => heavyE e + weightE l
theorem weightE_snoc (l : List RE) (e : RE) : weightE (l ++ [e]) = weightE l + heavyE e := by
 induction l with
 | nil => simp [weightE]
 | cons x l ih => simp only [List.cons_append, weightE, ih]; omega
def greatE (l : List RE) : Bool := l.any (fun e => decide (6 < wordsE e)) || (decide (30 < l.length) || decide (18 < weightE l))
theorem greatE_not {l : List RE} (h : greatE l = false) : l.length ≤ 30 ∧ ∀ e ∈ l, wordsE e ≤ 6 := by
 unfold greatE at h
 simp only [Bool.or_eq_false_iff, decide_eq_false_iff_not, List.any_eq_false, decide_eq_true_eq] at h
 exact ⟨by omega, fun e he => by have := h.1 e he; omega⟩
theorem greatE_words {l : List RE} {i : Nat} {e : RE} (h : l[i]? = some e) (hw : 6 < wordsE e) : greatE l = true := by
 unfold greatE
 have : l.any (fun e => decide (6 < wordsE e)) = true := List.any_eq_true.2 ⟨e, List.mem_of_getElem? h, by simpa using hw⟩
 rw [this]
 rfl
theorem greatE_rest {l : List RE} (h : ∀ e ∈ l, wordsE e ≤ 6) : greatE l = (decide (30 < l.length) || decide (18 < weightE l)) := by
 unfold greatE
 have : l.any (fun e => decide (6 < wordsE e)) = false := List.any_eq_false.2 fun e he => by have := h e he; simp; omega
 rw [this]
 rfl
def greatV (l : List TE) : Bool := greatE (l.map Prod.snd)
set_option maxHeartbeats 4000000 in
theorem light_calls (v : Value) (xs : List Nat) (w : World) (hv : IsL .u64 w v xs) (hd : Dig W xs) :
  Calls Try.prog 118 #[v] w fun e w' => e = .returned (.bool (lightW xs)) ∧ Ext w w' := by
 obtain ⟨ad, cap, rfl, hlc, hcap, hr⟩ := hv
 match xs, hlc, hr, hd with
 | [], hlc, hr, hd =>
  simp only [List.length_nil]
  go_enter Try.func118, Try.ntmps118
  go_wp2
  go_ret
  exact ⟨rfl, Ext.refl _⟩
 | [x], hlc, hr, hd =>
  obtain ⟨b, off, rfl, hcells⟩ := hr.at (by simp [vals])
  have hcx := hcells 0 _ (vals_get .u64 [x] 0 (by simp))
  simp only [List.length_cons, List.length_nil, Nat.zero_add]
  have hx : x < W := hd x (by simp)
  rw [W_eq] at hx
  clear hcells hr hd
  simp at hcx
  go_enter Try.func118, Try.ntmps118
  by_cases hxx : x < 65536
  ·have h1 : (x : Int) < 65536 := by omega
   have HR : Hid (lightW [x] = true) := Lib.hid (decide_eq_true hxx)
   go_wp2
   go_ret
   exact ⟨by rw [HR.out] <;> rfl, Ext.refl _⟩
  ·have h1 : ¬ (x : Int) < 65536 := by omega
   have HR : Hid (lightW [x] = false) := Lib.hid (decide_eq_false hxx)
   go_wp2
   go_ret
   exact ⟨by rw [HR.out] <;> rfl, Ext.refl _⟩
 | x :: y :: r, hlc, hr, hd =>
  obtain ⟨n, hn⟩ : ∃ n, n = (x :: y :: r).length := ⟨_, rfl⟩
  have h0 : (n : Int) ≠ 0 := by rw [hn]; simp only [List.length_cons]; omega
  have h1 : (n : Int) ≠ 1 := by rw [hn]; simp only [List.length_cons]; omega
  have HR : Hid (lightW (x :: y :: r) = false) := Lib.hid rfl
  have hb0 : ((n : Int) == 0) = false := by simpa using h0
  have hb1 : ((n : Int) == 1) = false := by simpa using h1
  rw [← hn]
  clear hn hr
  go_enter Try.func118, Try.ntmps118
  go_wp2
  go_ret
  exact ⟨by rw [HR.out] <;> rfl, Ext.refl _⟩
set_option maxHeartbeats 4000000 in
theorem weight_calls (v : Value) (l : List RE) (w : World) (hv : SLQ w v l) (hn : l.length ≤ 30) (hl : ∀ e ∈ l, wordsE e ≤ 6) :
  Calls Try.prog 91 #[v] w fun e w' => e = .returned (.int .i64 (weightE l : Int)) ∧ Ext w w' := by
 obtain ⟨ad, n, cap, hnl, rfl, hn1, hat⟩ := hv.at
 rw [← hnl] at hn
 have HN := Lib.hid hnl
 have HAT := Lib.hid hat
 clear hnl hat hv
 go_enter Try.func91, Try.ntmps91
 go_wp2_with fail
 go_loopw [3, 4] (fun s3 s4 wr => ∃ i s : Nat, i ≤ n ∧ s4 = .int .i64 (i : Int) ∧ s3 = .int .i64 (s : Int) ∧ s ≤ 6 * i ∧ Hid (s = weightE (l.take i)) ∧ Ext w wr) (fun _ s4 _ => ((n : Int) - intOf s4).toNat)
 case atStart => exact ⟨0, 0, Nat.zero_le _, rfl, rfl, Nat.zero_le _, Lib.hid rfl, Ext.refl _⟩
 case round =>
  obtain ⟨i, s, hi, rfl, rfl, hs6, hS, hE0⟩ := hrel
  rcases Nat.eq_or_lt_of_le hi with hin | hin
  ·subst hin
   have hlt : ¬ ((i : Int) < (i : Int)) := by omega
   have hss : s = weightE l := by have := hS.out; rwa [HN.out, List.take_length] at this
   have HSS := Lib.hid hss
   clear hss
   go_wp2
   go_ret
   exact ⟨by rw [HSS.out] <;> rfl, hE0⟩
  ·have hlt : (i : Int) < (n : Int) := by omega
   obtain ⟨⟨xb, xs, xt⟩, hx⟩ : ∃ x, l[i]? = some x := ⟨_, List.getElem?_eq_getElem (by rw [← HN.out]; exact hin)⟩
   obtain ⟨g, off, rfl, b, a1, n1, c1, a2, n2, c2, -, -, hcell⟩ := HAT.out i _ hx
   have hw6 : xs.length + xt.length ≤ 6 := hl _ (List.mem_of_getElem? hx)
   have htk : weightE (l.take (i + 1)) = weightE (l.take i) + heavyE (xb, xs, xt) := by rw [List.take_add_one, hx]; exact weightE_snoc _ _
   rw [← hS.out] at htk
   have HTK := Lib.hid htk
   obtain ⟨hc0, hc1, hc2, hR⟩ := hcell wr hE0
   have HC := Lib.hid hcell
   have HX := Lib.hid hx
   have HW := Lib.hid hw6
   obtain ⟨⟨s1, s2, hv, hL1, hL2⟩, hD1, hD2, -⟩ := hR
   cases hv
   have HL := Lib.hid (And.intro hL1 (And.intro hL2 (And.intro hD1 hD2)))
   clear hx hcell htk hL1 hL2 hD1 hD2 hw6
   have hnh : (heavyE (xb, xs, xt)) = if lightW xs && lightW xt then 0 else xs.length + xt.length := rfl
   have HNH := Lib.hid hnh
   clear hnh
   obtain ⟨p, hp⟩ : ∃ p, p = lightW xs := ⟨_, rfl⟩
   obtain ⟨q, hq⟩ : ∃ q, q = lightW xt := ⟨_, rfl⟩
   have HP := Lib.hid (And.intro hp hq)
   obtain ⟨i1, hi1⟩ : ∃ i1, i1 = i + 1 := ⟨_, rfl⟩
   have hi1' : (i : Int) + 1 = (i1 : Int) := by omega
   have hi1n : i1 ≤ n := by omega
   have HI1 := Lib.hid hi1
   obtain ⟨t, ht⟩ : ∃ t, t = xs.length + xt.length := ⟨_, rfl⟩
   obtain ⟨st, hst⟩ : ∃ st, st = s + t := ⟨_, rfl⟩
   have ht6 : t ≤ 6 := by rw [ht]; exact HW.out
   have hst' : (s : Int) + (t : Int) = (st : Int) := by omega
   have hst6 : st ≤ 6 * i1 := by omega
   have hs6' : s ≤ 6 * i1 := by omega
   have hwst : IntKind.i64.wrap (st : Int) = (st : Int) := Go.IntWalk.i64_in _ ⟨by omega, by omega⟩
   have HT := Lib.hid (And.intro ht hst)
   clear hp hq hi1 ht hst
   go_wp2_with fail
   refine (light_calls _ xs wr HL.out.1 HL.out.2.2.1).mono ?_
   rintro e w2 ⟨rfl, e2⟩
   rw [← HP.out.1]
   obtain ⟨hd0, hd1, hd2, -⟩ := HC.out w2 (hE0.trans e2)
   have hE2 := hE0.trans e2
   cases p with
   | true =>
    go_wp2_with fail
    refine (light_calls _ xt w2 (HL.out.2.1.ext e2) HL.out.2.2.2).mono ?_
    rintro e w3 ⟨rfl, e3⟩
    rw [← HP.out.2]
    obtain ⟨hf0, hf1, hf2, hf⟩ := HC.out w3 (hE2.trans e3)
    have HF := Lib.hid hf
    clear hf
    cases q with
    | true =>
     have hz : s = weightE (l.take i1) := by
      rw [HI1.out, HTK.out, HNH.out, ← HP.out.1, ← HP.out.2]
      rfl
     have HZ := Lib.hid hz
     clear hz
     go_wp2
     go_roundw
     case rel => exact ⟨i1, s, hi1n, rfl, rfl, hs6', HZ, hE2.trans e3⟩
     case measure => have := HI1.out; simp [intOf]; omega
    | false =>
     have hz : st = weightE (l.take i1) := by
      rw [HI1.out, HTK.out, HNH.out, ← HP.out.1, ← HP.out.2, HT.out.2, HT.out.1]
      rfl
     have HZ := Lib.hid hz
     clear hz
     go_wp2_with fail
     refine (rqwords3_calls _ xb xs xt w3 HF.out.1 (by have := HW.out; omega)).mono ?_
     rintro e w4 ⟨rfl, e4⟩
     rw [← HT.out.1]
     go_wp2
     go_roundw
     case rel => exact ⟨i1, st, hi1n, rfl, rfl, hst6, HZ, (hE2.trans e3).trans e4⟩
     case measure => have := HI1.out; simp [intOf]; omega
   | false =>
    obtain ⟨hf0, hf1, hf2, hf⟩ := HC.out w2 hE2
    have HF := Lib.hid hf
    clear hf
    have hz : st = weightE (l.take i1) := by
     rw [HI1.out, HTK.out, HNH.out, ← HP.out.1, HT.out.2, HT.out.1]
     rfl
    have HZ := Lib.hid hz
    clear hz
    go_wp2_with fail
    refine (rqwords3_calls _ xb xs xt w2 HF.out.1 (by have := HW.out; omega)).mono ?_
    rintro e w4 ⟨rfl, e4⟩
    rw [← HT.out.1]
    go_wp2
    go_roundw
    case rel => exact ⟨i1, st, hi1n, rfl, rfl, hst6, HZ, hE2.trans e4⟩
    case measure => have := HI1.out; simp [intOf]; omega
set_option maxHeartbeats 4000000 in
theorem weights_calls (v : Value) (l : List TE) (w : World) (hv : TLE w v l) (hn : l.length ≤ 30) (hl : ∀ e ∈ l, wordsE e.2 ≤ 6) :
  Calls Try.prog 90 #[v] w fun e w' => e = .returned (.int .i64 (weightE (l.map Prod.snd) : Int)) ∧ Ext w w' := by
 obtain ⟨ad, n, cap, hnl, rfl, hn1, hat⟩ := hv.at
 rw [← hnl] at hn
 have HN := Lib.hid hnl
 have HAT := Lib.hid hat
 clear hnl hat hv
 go_enter Try.func90, Try.ntmps90
 go_wp2_with fail
 go_loopw [3, 4] (fun s3 s4 wr => ∃ (i : Nat) (ado : Option Addr) (capo : Nat), i ≤ n ∧ s4 = .int .i64 (i : Int) ∧ s3 = .slice ado i capo ∧ Hid (OL 28 3 w.heap.size (fun _ u e => RawE w u e) wr (.slice ado i capo) ((l.map Prod.snd).take i)) ∧ Ext w wr) (fun _ s4 _ => ((n : Int) - intOf s4).toNat)
 case atStart => exact ⟨0, none, 0, Nat.zero_le _, rfl, rfl, Lib.hid (OL.nil _ _ _ _ _), Ext.refl _⟩
 case round =>
  obtain ⟨i, ado, capo, hi, rfl, rfl, hS, hE0⟩ := hrel
  rcases Nat.eq_or_lt_of_le hi with hin | hin
  ·subst hin
   have hlt : ¬ ((i : Int) < (i : Int)) := by omega
   have hsl : SLQ wr (.slice ado i capo) (l.map Prod.snd) := by
    have := hS.out
    rw [show (l.map Prod.snd).take i = l.map Prod.snd by rw [HN.out, List.take_of_length_le (by simp)]] at this
    exact (this.sl (by omega)).map fun u y h => h.ext hE0
   have HSL := Lib.hid hsl
   clear hsl
   go_wp2_with fail
   refine (weight_calls _ (l.map Prod.snd) wr HSL.out (by rw [List.length_map, ← HN.out]; exact hn) (fun e he => by obtain ⟨x, h1, rfl⟩ := List.mem_map.1 he; exact hl x h1)).mono ?_
   rintro e w2 ⟨rfl, e2⟩
   go_wp2
   go_ret
   exact ⟨rfl, hE0.trans e2⟩
  ·have hlt : (i : Int) < (n : Int) := by omega
   obtain ⟨⟨xc, xe⟩, hx⟩ : ∃ x, l[i]? = some x := ⟨_, List.getElem?_eq_getElem (by rw [← HN.out]; exact hin)⟩
   obtain ⟨g, off, rfl, b, a1, n1, c1, a2, n2, c2, -, -, hcell, hR⟩ := HAT.out i _ hx
   have hc3 := cells3 hcell
   have hc0 := hc3 wr hE0 0 _ rfl
   have hc1 := hc3 wr hE0 1 _ rfl
   have hc2 := hc3 wr hE0 2 _ rfl
   simp only [Nat.add_zero] at hc0
   obtain ⟨vs, hls, hvl, hvs⟩ := hS.out
   have hvi : vs.length = i := by rw [hvl, List.length_take, List.length_map, ← HN.out]; omega
   have htk : (l.map Prod.snd).take (i + 1) = (l.map Prod.snd).take i ++ [xe] := by rw [List.take_add_one, List.getElem?_map, hx]; rfl
   subst hvi
   have HTK := Lib.hid htk
   have HLS := Lib.hid hls
   have HV := Lib.hid (And.intro hvl hvs)
   have HRX := Lib.hid hR
   have hwr := hE0.size
   simp only at hR
   clear hcell hx hls hvl hvs htk hc3 hR hS
   go_wp2_with (first
    | (at_builtin; go_loud (refine wpList_append_LS rfl _ _ 61 rfl 28 3 56 w.heap.size Try.underlying61 (by kernel_rfl) (by kernel_rfl) (by omega) _ vs rfl (HLS.out.ext ((Ext.refl _).alloc _)) ⟨wr.heap.size, 0, none⟩ #[.bool b, .slice a1 n1 c1, .slice a2 n2 c2] rfl rfl (news_new _ _ _) (by kernel_rfl) (by omega) (by omega) (by rw [alloc_size]; omega) ?_); intro g' cap2' w7 hls7 hg7 hwh7 hlt7)
    | fail)
   go_roundw
   case rel =>
    have hA := (Ext.refl wr).alloc (.cells #[.bool b, .slice a1 n1 c1, .slice a2 n2 c2] 28)
    refine ⟨vs.length + 1, some ⟨g', 0, none⟩, cap2', by omega, by simp, rfl, Lib.hid ?_, (hE0.trans hA).stepG hg7 HLS.out.ge⟩
    rw [HTK.out]
    exact OL.app (w := wr) HV.out.1 HV.out.2 hls7 (fun u y h => h) HRX.out
   case measure => simp [intOf]; omega
set_option maxHeartbeats 4000000 in
theorem great_calls (v : Value) (l : List TE) (w : World) (hv : TLE w v l) :
  Calls Try.prog 89 #[v] w fun e w' => e = .returned (.bool (greatV l)) ∧ Ext w w' := by
 obtain ⟨ad, n, cap, hnl, rfl, hn1, hat⟩ := hv.at
 have HV := Lib.hid hv
 have HN := Lib.hid hnl
 have HAT := Lib.hid hat
 clear hnl hat hv
 go_enter Try.func89, Try.ntmps89
 go_wp2_with fail
 go_loopw [3] (fun s wr => ∃ i : Nat, i ≤ n ∧ s = .int .i64 (i : Int) ∧ Hid (∀ e ∈ l.take i, wordsE e.2 ≤ 6) ∧ Ext w wr) (fun s _ => ((n : Int) - intOf s).toNat)
 case atStart => exact ⟨0, Nat.zero_le _, rfl, Lib.hid (fun e he => by simp at he), Ext.refl _⟩
 case round =>
  obtain ⟨i, hi, rfl, hS, hE0⟩ := hrel
  rcases Nat.eq_or_lt_of_le hi with hin | hin
  ·subst hin
   have hlt : ¬ ((i : Int) < (i : Int)) := by omega
   have hall : ∀ e ∈ l, wordsE e.2 ≤ 6 := by have := hS.out; rwa [HN.out, List.take_length] at this
   have hG : greatV l = (decide (30 < i) || decide (18 < weightE (l.map Prod.snd))) := by
    unfold greatV
    rw [greatE_rest (fun e he => by obtain ⟨x, h1, rfl⟩ := List.mem_map.1 he; exact hall x h1), List.length_map, ← HN.out]
   have HG := Lib.hid hG
   have HALL := Lib.hid hall
   clear hG hall
   by_cases h30 : 30 < i
   ·have h30' : (30 : Int) < (i : Int) := by omega
    have HR : Hid (greatV l = true) := Lib.hid (by rw [HG.out, decide_eq_true h30]; rfl)
    go_wp2
    go_ret
    exact ⟨by rw [HR.out] <;> rfl, hE0⟩
   ·have h30' : ¬ (30 : Int) < (i : Int) := by omega
    have HR : Hid (greatV l = decide (18 < weightE (l.map Prod.snd))) := Lib.hid (by rw [HG.out, decide_eq_false h30]; rfl)
    go_wp2_with fail
    refine (weights_calls _ l wr (HV.out.ext hE0) (by rw [← HN.out]; omega) HALL.out).mono ?_
    rintro e w2 ⟨rfl, e2⟩
    obtain ⟨p, hp⟩ : ∃ p, p = weightE (l.map Prod.snd) := ⟨_, rfl⟩
    rw [← hp] at HR ⊢
    clear hp
    by_cases h18 : 18 < p
    ·have h18' : (18 : Int) < (p : Int) := by omega
     have HR2 : Hid (greatV l = true) := Lib.hid (by rw [HR.out, decide_eq_true h18])
     go_wp2
     go_ret
     exact ⟨by rw [HR2.out] <;> rfl, hE0.trans e2⟩
    ·have h18' : ¬ (18 : Int) < (p : Int) := by omega
     have hd18 : decide ((18 : Int) < (p : Int)) = false := decide_eq_false h18'
     have HR2 : Hid (greatV l = false) := Lib.hid (by rw [HR.out, decide_eq_false h18])
     go_wp2
     go_ret
     exact ⟨by rw [HR2.out] <;> rfl, hE0.trans e2⟩
  ·have hlt : (i : Int) < (n : Int) := by omega
   obtain ⟨⟨xc, xb, xs, xt⟩, hx⟩ : ∃ x, l[i]? = some x := ⟨_, List.getElem?_eq_getElem (by rw [← HN.out]; exact hin)⟩
   obtain ⟨g, off, rfl, b, a1, n1, c1, a2, n2, c2, -, -, hcell, hR⟩ := HAT.out i _ hx
   have hc3 := cells3 hcell
   have hc0 := hc3 wr hE0 0 _ rfl
   have hc1 := hc3 wr hE0 1 _ rfl
   have hc2 := hc3 wr hE0 2 _ rfl
   simp only [Nat.add_zero] at hc0
   have HRX := Lib.hid hR
   have HX := Lib.hid hx
   obtain ⟨p, hp⟩ : ∃ p, p = xs.length + xt.length := ⟨_, rfl⟩
   have HP := Lib.hid hp
   obtain ⟨i1, hi1⟩ : ∃ i1, i1 = i + 1 := ⟨_, rfl⟩
   have hi1' : (i : Int) + 1 = (i1 : Int) := by omega
   have hi1n : i1 ≤ n := by omega
   have HI1 := Lib.hid hi1
   clear hcell hx hc3 hR hp hi1
   go_wp2_with fail
   refine (rqwords3_calls _ xb xs xt wr (HRX.out.1.ext hE0) HRX.out.2.2.2).mono ?_
   rintro e w2 ⟨rfl, e2⟩
   rw [← HP.out]
   by_cases h6 : 6 < p
   ·have h6' : (6 : Int) < (p : Int) := by omega
    have HR : Hid (greatV l = true) := Lib.hid (greatE_words (l := l.map Prod.snd) (i := i) (e := (xb, xs, xt)) (by rw [List.getElem?_map, HX.out]; rfl) (by show 6 < xs.length + xt.length; rw [← HP.out]; exact h6))
    go_wp2
    go_ret
    exact ⟨by rw [HR.out] <;> rfl, hE0.trans e2⟩
   ·have h6' : ¬ (6 : Int) < (p : Int) := by omega
    have hs : ∀ e ∈ l.take i1, wordsE e.2 ≤ 6 := by
     rw [HI1.out, List.take_add_one, HX.out]
     intro e he
     rcases List.mem_append.1 he with he | he
     ·exact hS.out e he
     ·simp only [Option.toList_some, List.mem_singleton] at he
      subst he
      show xs.length + xt.length ≤ 6
      rw [← HP.out]
      omega
    have HS := Lib.hid hs
    clear hs
    go_wp2
    go_roundw
    case rel => exact ⟨i1, hi1n, rfl, HS, hE0.trans e2⟩
    case measure => have := HI1.out; simp [intOf]; omega
end Go.Proofs.Ytdmjgjcljbogiaa
/-
 Vectors: a number times one (vec.Scale); the law's examples.
-/
namespace Go.Proofs.Ytdmjgjcljbogiaa
set_option maxRecDepth 100000
set_option maxHeartbeats 1000000
open Go.RowKit
set_option linter.unusedVariables false
set_option linter.unusedSimpArgs false
theorem TL.none (k : Nat) (w : World) (c : Nat) (hc : c ≤ 9223372036854775807) : TL k w (.slice Option.none 0 c) [] := ⟨Option.none, c, rfl, by simp, hc, .inl rfl⟩
theorem LS.chg {e : TypeId} {n B g : Nat} {w w' : World} {v : Value} {vs : List Value} (h : LS e n B w v vs) (hc : Chg g w w') (hg : g < B) : LS e n B w' v vs := by
 refine ⟨h.1, h.2.1, ?_⟩
 rcases h.2.2 with h2 | ⟨g', cap, cur, h1, h2, h3, h4⟩
 ·exact .inl h2
 ·exact .inr ⟨g', cap, cur, h1, h2, hc.blk h3 (by omega), h4⟩
theorem TO.chg {B k g : Nat} {w w' : World} {v : Value} {m : List (Int × Rat)} (h : TO B k w v m) (hc : Chg g w w') (hg : g < B) : TO B k w' v m := by
 obtain ⟨ts, h1, h2, h3⟩ := h
 exact ⟨ts, h1, h2.chg hc hg, fun i t x h4 h5 => (let ⟨a, b, c⟩ := h3 i t x h4 h5; ⟨a, b.chg hc hg, c⟩)⟩
def PP.tO {S : Nat} (k : Nat) (m : List (Int × Rat)) : PP S := ⟨false, fun u w => TO S k w u m, fun _ _ _ h hp => hp.ext h, fun _ _ hg _ _ _ h hp => hp.chg h hg⟩
end Go.Proofs.Ytdmjgjcljbogiaa
/-
 Lists of terms handed in to a law.
-/
namespace Go.Proofs.Ytdmjgjcljbogiaa
set_option maxRecDepth 100000
set_option maxHeartbeats 1000000
open Go.RowKit
open Go.ChangeShapes Go.WideShapes Go.ChangeAt
set_option linter.unusedVariables false
set_option linter.unusedSimpArgs false
theorem cellsTm : Try.prog.cellsOf 106 = 4 := by kernel_rfl
theorem cellsInt : Try.prog.cellsOf 3 = 1 := by kernel_rfl
section
variable {H : Type} {enc : TypeId × Value → H} {w : World} {base : Nat} {spare : Nat → Bool} {held : Bool}
theorem open_int1 {fuel : Nat} {cs : List Value} {x : DataW H × List MemPlace} (h : DataW.trod enc Try.prog w base spare held fuel 3 cs = some x) : ∃ k, cs = [.int .i64 k] ∧ (Lit.int .i64 k).wf = true ∧ x.1 = .lit (.int .i64 k) := by
 cases fuel with
 | zero => simp [DataW.trod] at h
 | succ n =>
  unfold DataW.trod at h
  rw [Try.underlying3] at h
  rcases cs with _ | ⟨c, _ | ⟨c2, cs⟩⟩ <;> (try cases c) <;> simp at h
  obtain ⟨⟨rfl, hw⟩, h2⟩ := h
  exact ⟨_, rfl, hw, by rw [← h2]⟩
theorem open_termC {fuel : Nat} {cs : List Value} {x : DataW H × List MemPlace} (h : DataW.trod enc Try.prog w base spare held fuel 106 cs = some x) : ∃ c b s t xs ys, cs = [.int .i64 c, .bool b, s, t] ∧ (Lit.int .i64 c).wf = true ∧ IsL .u64 w s xs ∧ Dig W xs ∧ IsL .u64 w t ys ∧ Dig W ys ∧ (∀ B, (∀ n ∈ x.1.weights Try.prog 106, n ≤ B) → xs.length ≤ B ∧ ys.length ≤ B) := by
 obtain ⟨y0, y1, n, hx, hl, h0, h1⟩ := trod_struct2 Try.underlying106 h
 rw [cellsTm] at hl
 obtain ⟨c0, c1, c2, c3, rfl⟩ : ∃ c0 c1 c2 c3, cs = [c0, c1, c2, c3] := by
  rcases cs with _ | ⟨c0, _ | ⟨c1, _ | ⟨c2, _ | ⟨c3, _ | ⟨c4, cs⟩⟩⟩⟩⟩ <;> simp at hl
  exact ⟨_, _, _, _, rfl⟩
 obtain ⟨c, hc, wc, -⟩ := open_int1 h0
 obtain ⟨b, s, t, xs, ys, hb, hL, hd, hL2, hd2, hB, hw⟩ := open_ratC h1
 have e0 : List.take (Try.prog.cellsOf 3) (List.drop 0 [c0, c1, c2, c3]) = [c0] := by rw [cellsInt]; rfl
 have e1 : List.take (Try.prog.cellsOf 28) (List.drop 1 [c0, c1, c2, c3]) = [c1, c2, c3] := by rw [cellsQ]; rfl
 have h0' : [c0] = [.int .i64 c] := e0 ▸ hc
 have h1' : [c1, c2, c3] = [.bool b, s, t] := e1 ▸ hb
 simp only [List.cons.injEq, and_true] at h0' h1'
 obtain ⟨rfl, rfl, rfl⟩ := h1'
 subst h0'
 refine ⟨c, b, _, _, xs, ys, rfl, wc, hL, hd, hL2, hd2, fun B h => hB B fun n hn => h n ?_⟩
 rw [hx]
 simp only [DataW.weights, Try.underlying106]
 first
  | exact List.mem_append_right _ (List.mem_append_left _ hn)
  | (simp only [List.mem_append]; exact .inr (.inl hn))
end
end Go.Proofs.Ytdmjgjcljbogiaa
/-
 The documents' vectors: the number at a place (Get), the product with a list (Dot).
-/
namespace Go.Proofs.Ytdmjgjcljbogiaa
set_option maxRecDepth 100000
set_option maxHeartbeats 1000000
open Go.RowKit
set_option linter.unusedVariables false
set_option linter.unusedSimpArgs false
theorem FrQd.chgN {B : Nat} {w w' : World} {v : Value} {q : Rat} {g : Nat} {t : TypeId} {cs cs' : Array Value} (h : FrQd B w v q) (hc : Chg g w w') (hb : Bx t w g cs) (hb' : Bx t w' g cs') (ht : t ≠ 88) (ht2 : t ≠ 3) : FrQd B w' v q := h.tchg (S := 0) ⟨g, t, cs, cs', Nat.zero_le _, ht, ht2, rfl, hb, hb', hc⟩
end Go.Proofs.Ytdmjgjcljbogiaa
/-
 The documents' vectors: the places that are named (insert, Places).
-/
namespace Go.Proofs.Ytdmjgjcljbogiaa
set_option maxRecDepth 100000
set_option maxHeartbeats 1000000
open Go.RowKit
set_option linter.unusedVariables false
set_option linter.unusedSimpArgs false
def insI (x : Int) : List Int → List Int
 | [] => [x]
 | y :: l => if x < y then x :: y :: l else if x = y then y :: l else y :: insI x l
theorem insI_len (x : Int) : ∀ l : List Int, (insI x l).length ≤ l.length + 1
 | [] => by simp [insI]
 | y :: l => by
  have := insI_len x l
  unfold insI
  split
  ·simp
  ·split
   ·simp
   ·simp; omega
def IL (B : Nat) (w : World) (v : Value) (xs : List Int) : Prop := w.ownsRow B 3 1 v xs.length (xs.map (Value.int .i64))
theorem IL.ext {B : Nat} {w w' : World} {v : Value} {xs : List Int} (h : IL B w v xs) (he : Ext w w') : IL B w' v xs := by
 refine ⟨h.1, ?_⟩
 rcases h.2 with h2 | ⟨g, cap, cur, h1, h2, h3, h4⟩
 ·exact .inl h2
 ·exact .inr ⟨g, cap, cur, h1, h2, he.blk h3, h4⟩
theorem IL.mono {B B' : Nat} {w : World} {v : Value} {xs : List Int} (h : IL B w v xs) (hB : B' ≤ B) : IL B' w v xs := by
 refine ⟨h.1, ?_⟩
 rcases h.2 with h2 | ⟨g, cap, cur, h1, h2, h3⟩
 ·exact .inl h2
 ·exact .inr ⟨g, cap, cur, h1, Nat.le_trans hB h2, h3⟩
theorem IL.ge {B : Nat} {w : World} {v : Value} {xs : List Int} (h : IL B w v xs) : ∀ g, v.ownBlock = some g → B ≤ g := by
 intro g hg
 rcases h.2 with ⟨h1, h2⟩ | ⟨g', cap, cur, h1, h2, h3, h4⟩
 ·rw [h1] at hg; cases hg
 ·rw [h1] at hg
  simp only [Value.ownBlock, Option.some.injEq] at hg
  subst hg
  exact h2
theorem IL.opn {B : Nat} {w : World} {v : Value} {xs : List Int} (h : IL B w v xs) : ∃ ad cap, v = .slice ad xs.length cap ∧ ∀ (i : Nat) (x : Int), xs[i]? = some x → ∃ g, ad = some ⟨g, 0, none⟩ ∧ ∀ wz, Ext w wz → wz.cell? ⟨g, i, none⟩ = some (.int .i64 x) := by
 rcases h.2 with ⟨h1, h2⟩ | ⟨g, cap, cur, h1, h2, h3, h4, h5, h6, h7⟩
 ·exact ⟨none, 0, by rw [h1, h2], fun i x hi => by rw [List.eq_nil_of_length_eq_zero h2] at hi; simp at hi⟩
 ·refine ⟨_, cap, h1, fun i x hi => ⟨g, rfl, fun wz hz => ?_⟩⟩
  have hb : Bx 3 wz g cur := hz.blk h3
  rw [hb.cell i]
  have h8 := congrArg (fun l => l[i]?) h7
  simp only [Nat.mul_one] at h8
  rw [List.getElem?_take, if_pos (List.getElem?_eq_some_iff.1 hi).1, List.getElem?_map, hi, Array.getElem?_toList] at h8
  exact h8
theorem IL.at {B n cap : Nat} {w : World} {pad : Option Addr} {xs : List Int} (h : IL B w (.slice pad n cap) xs) {i : Nat} {x : Int} (hi : xs[i]? = some x) : ∃ g, pad = some ⟨g, 0, none⟩ ∧ ∀ wz, Ext w wz → wz.cell? ⟨g, i, none⟩ = some (.int .i64 x) := by
 obtain ⟨ad, cap', e, f⟩ := h.opn
 simp only [Value.slice.injEq] at e
 obtain ⟨rfl, -, -⟩ := e
 exact f i x hi
theorem IL.chgT {B p : Nat} {w w' : World} {v : Value} {xs : List Int} {t : TypeId} {cs : Array Value} (h : IL B w v xs) (he : Chg p w w') (hp : Bx t w p cs) (ht : t ≠ 3) : IL B w' v xs := by
 refine ⟨h.1, ?_⟩
 rcases h.2 with h2 | ⟨g, cap, cur, h1, h2, h3, h4⟩
 ·exact .inl h2
 ·refine .inr ⟨g, cap, cur, h1, h2, he.blk h3 ?_, h4⟩
  rintro rfl
  unfold Bx at hp
  rw [h3] at hp
  simp only [Option.some.injEq, Obj.cells.injEq] at hp
  exact ht hp.2.1.symm
theorem IL.empty (B : Nat) (w : World) (hB : B ≤ w.heap.size) : IL B (w.alloc (.cells #[] 3)) (.slice (some ⟨w.heap.size, 0, none⟩) 0 0) [] :=
 ⟨rfl, .inr ⟨w.heap.size, 0, #[], rfl, hB, Bx.new w _ #[], Nat.le_refl _, by unfold maxLen; omega, rfl, rfl⟩⟩
theorem ownsRow_extI {B e size n : Nat} {w w' : World} {v : Value} {xs : List Value} (h : w.ownsRow B e size v n xs) (he : Ext w w') : w'.ownsRow B e size v n xs := by
 refine ⟨h.1, ?_⟩
 rcases h.2 with h2 | ⟨g, cap, cur, h1, h2, h3, h4⟩
 ·exact .inl h2
 ·exact .inr ⟨g, cap, cur, h1, h2, he.blk h3, h4⟩
def InJ (d : Bool) (x : Int) (L : List Int) (i : Nat) (out : List Int) : Prop :=
 (d = false ∧ out = L.take i ∧ ∀ y ∈ L.take i, y < x) ∨ (d = true ∧ out = insI x (L.take i) ∧ x ∉ L ∧ ∃ z ∈ L.take i, x < z)
theorem InJ.len {d : Bool} {x : Int} {L : List Int} {i : Nat} {out : List Int} (h : InJ d x L i out) : out.length ≤ i + 1 := by
 have h0 := List.length_take_le i L
 rcases h with ⟨-, rfl, -⟩ | ⟨-, rfl, -⟩
 ·omega
 ·have := insI_len x (L.take i)
  omega
theorem take_next {α : Type} {L : List α} {i : Nat} {y : α} (h : L[i]? = some y) : L.take (i + 1) = L.take i ++ [y] := by rw [List.take_add_one, h]; rfl
end Go.Proofs.Ytdmjgjcljbogiaa
/-
 The documents' vectors: the one form (Places, Make).
-/
namespace Go.Proofs.Ytdmjgjcljbogiaa
set_option maxRecDepth 100000
set_option maxHeartbeats 1000000
open Go.RowKit
set_option linter.unusedVariables false
set_option linter.unusedSimpArgs false
theorem LS.empty (e : TypeId) (n B : Nat) (w : World) (hB : B ≤ w.heap.size) : LS e n B (w.alloc (.cells #[] e)) (.slice (some ⟨w.heap.size, 0, none⟩) 0 0) [] :=
 LS.of_hold (vs := []) (rest := []) (.nil n) hB (Nat.le_refl _) (by decide) (by simp) (Bx.new w e #[])
theorem TO.empty (B K : Nat) (w : World) (hB : B ≤ w.heap.size) : TO B K (w.alloc (.cells #[] 106)) (.slice (some ⟨w.heap.size, 0, none⟩) 0 0) [] := ⟨[], rfl, LS.empty _ _ _ _ hB, fun i t x h => by simp at h⟩
end Go.Proofs.Ytdmjgjcljbogiaa
/-
 The documents' vectors: a copy as new memory (Copy); all numbers written over (Spoil).
-/
namespace Go.Proofs.Ytdmjgjcljbogiaa
set_option maxRecDepth 100000
set_option maxHeartbeats 1000000
open Go.RowKit
set_option linter.unusedVariables false
set_option linter.unusedSimpArgs false
theorem FrR.chgB {B0 : Nat} {w w' : World} {v : Value} {b : Bool} {xs ys : List Nat} {g : Nat} {t : TypeId} {cs : Array Value} (h : FrR B0 w v b xs ys) (hc : Chg g w w') (hb : Bx t w g cs) (ht : t ≠ 88) : FrR B0 w' v b xs ys := by
 obtain ⟨s, u, h1, h2, h3⟩ := h
 exact ⟨s, u, h1, FrL.chgB h2 hc hb ht, FrL.chgB h3 hc hb ht⟩
def ApTR (B S n : Nat) (c : Int) (e : RE) (ts : List TmC) (hv v : Value) (b : World) : Prop :=
 ∃ (t : TmC) (g cap : Nat), v = .slice (some ⟨g, 0, none⟩) (n + 1) cap ∧ LS 106 4 B b v ((ts ++ [t]).map tmv) ∧ t.c = c ∧ FrR S b (ratv t) e.1 e.2.1 e.2.2 ∧ (hv.ownBlock = some g ∨ S ≤ g)
theorem ApTR.ext {B S n : Nat} {c : Int} {e : RE} {ts : List TmC} {hv v : Value} {a b : World} (h : ApTR B S n c e ts hv v a) (he : Ext a b) : ApTR B S n c e ts hv v b := by
 obtain ⟨t, g, cap, h1, h2, h3, h4, h5⟩ := h
 exact ⟨t, g, cap, h1, h2.ext he, h3, h4.ext he, h5⟩
def CpJ (B : Nat) (l : List TE) (i : Nat) (w : World) (v : Value) (ts : List TmC) : Prop := ts.length = i ∧ LS 106 4 B w v (ts.map tmv) ∧ ∀ (j : Nat) (t : TmC) (e : TE), ts[j]? = some t → l[j]? = some e → t.c = e.1 ∧ FrR B w (ratv t) e.2.1 e.2.2.1 e.2.2.2
theorem CpJ.ext {B i : Nat} {l : List TE} {w w' : World} {v : Value} {ts : List TmC} (h : CpJ B l i w v ts) (he : Ext w w') : CpJ B l i w' v ts :=
 ⟨h.1, h.2.1.ext he, fun j t e h1 h2 => ⟨(h.2.2 j t e h1 h2).1, (h.2.2 j t e h1 h2).2.ext he⟩⟩
theorem CpJ.app {B S n i gA : Nat} {l : List TE} {c : Int} {x : RE} {wr w6 w7 : World} {hv v' : Value} {ts : List TmC} (h : CpJ B l i wr hv ts) (he : Ext wr w6) (hC : Chg gA w6 w7) (hgA : ∃ cs, Bx 106 w6 gA cs) (hA : ApTR B S n c x ts hv v' w7) (hB : B ≤ S) (hx : l[i]? = some (c, x)) : ∃ ts', CpJ B l (i + 1) w7 v' ts' := by
 obtain ⟨t, g, cap, h1, h2, h3, h4, h5⟩ := hA
 obtain ⟨cs, hb⟩ := hgA
 refine ⟨ts ++ [t], by rw [List.length_append, h.1]; rfl, h2, fun j u e hu hj => ?_⟩
 rcases Nat.lt_or_ge j ts.length with hjl | hjl
 ·rw [List.getElem?_append_left hjl] at hu
  obtain ⟨k1, k2⟩ := h.2.2 j u e hu hj
  exact ⟨k1, (k2.ext he).chgB hC hb (by decide)⟩
 ·rw [List.getElem?_append_right hjl] at hu
  have hjz : j - ts.length = 0 := by
   rcases Nat.eq_zero_or_pos (j - ts.length) with hz | hz
   ·exact hz
   ·rw [List.getElem?_eq_none (by simp; omega)] at hu
    cases hu
  rw [hjz] at hu
  have hji : j = i := by have := h.1; omega
  rw [hji, hx] at hj
  simp only [List.getElem?_cons_zero, Option.some.injEq] at hu hj
  subst hu hj
  exact ⟨h3, h4.mono hB⟩
theorem CpJ.tle {B : Nat} {l : List TE} {w : World} {v : Value} {ts : List TmC} (h : CpJ B l l.length w v ts) (hd : ∀ e ∈ l, Dig W e.2.2.1 ∧ Dig W e.2.2.2 ∧ e.2.2.1.length + e.2.2.2.length ≤ 9223372036854775807) : TLE w v l := by
 refine OL.sl (t := 106) (B := B) ⟨_, h.2.1, by rw [List.length_map]; exact h.1, fun i u e hu he => ?_⟩ (by omega)
 rw [List.getElem?_map] at hu
 cases ht : ts[i]? with
 | none => rw [ht] at hu; cases hu
 | some t =>
  rw [ht] at hu
  simp only [Option.map_some, Option.some.injEq] at hu
  subst hu
  obtain ⟨k1, k2⟩ := h.2.2 i t e ht he
  exact ⟨_, _, _, _, _, _, _, by unfold tmv; rw [k1], k2.raw, hd e (List.mem_of_getElem? he)⟩
def TLO (B : Nat) (w : World) (v : Value) (l : List TE) : Prop := (∃ ts, CpJ B l l.length w v ts) ∧ ∀ e ∈ l, Dig W e.2.2.1 ∧ Dig W e.2.2.2 ∧ e.2.2.1.length + e.2.2.2.length ≤ 9223372036854775807
theorem TLO.tle {B : Nat} {w : World} {v : Value} {l : List TE} (h : TLO B w v l) : TLE w v l := by
 obtain ⟨⟨ts, hc⟩, hd⟩ := h
 exact CpJ.tle hc hd
theorem TLO.ext {B : Nat} {w w' : World} {v : Value} {l : List TE} (h : TLO B w v l) (he : Ext w w') : TLO B w' v l := by
 obtain ⟨⟨ts, hc⟩, hd⟩ := h
 exact ⟨⟨ts, hc.ext he⟩, hd⟩
theorem TLO.chgB {B g : Nat} {w w' : World} {v : Value} {l : List TE} {t : TypeId} {cs : Array Value} (h : TLO B w v l) (hc : Chg g w w') (hb : Bx t w g cs) (ht : t ≠ 88) (ht2 : t ≠ 106) : TLO B w' v l := by
 obtain ⟨⟨ts, h1, h2, h3⟩, hd⟩ := h
 exact ⟨⟨ts, h1, h2.chgT hc hb ht2, fun j t e a b => ⟨(h3 j t e a b).1, (h3 j t e a b).2.chgB hc hb ht⟩⟩, hd⟩
def HurtV (B0 : Nat) (w w' : World) : Prop := w'.os = w.os ∧ w'.tape = w.tape ∧ w'.output = w.output ∧ w.heap.size ≤ w'.heap.size ∧
 ∀ k, k < w.heap.size → w'.heap[k]? = w.heap[k]? ∨ (B0 ≤ k ∧ ∃ cur cur' t, (t = 88 ∨ (t = 106 ∧ ∀ x, x % 4 ≠ 0 → cur'[x]? = cur[x]?)) ∧ w.heap[k]? = some (.cells cur t (0, 0)) ∧ w'.heap[k]? = some (.cells cur' t (0, 0)) ∧ cur'.size = cur.size)
theorem Hurt.v {B0 : Nat} {w w' : World} (h : Hurt B0 w w') : HurtV B0 w w' := by
 obtain ⟨h1, h2, h3, h4, h5⟩ := h
 refine ⟨h1, h2, h3, h4, fun k hk => ?_⟩
 rcases h5 k hk with e | ⟨hb, cur, cur', c1, c2, c3⟩
 ·exact .inl e
 ·exact .inr ⟨hb, cur, cur', _, .inl rfl, c1, c2, c3⟩
theorem HurtV.refl (B0 : Nat) (w : World) : HurtV B0 w w := ⟨rfl, rfl, rfl, Nat.le_refl _, fun k hk => .inl rfl⟩
theorem Ext.hurtsV {w w' : World} (B0 : Nat) (h : Ext w w') : HurtV B0 w w' := ⟨World.grownBy.os h, World.grownBy.tape h, World.grownBy.output h, h.size, fun k hk => .inl (h.heap hk)⟩
theorem HurtV.mono {B0 B1 : Nat} {w w' : World} (h : HurtV B0 w w') (hB : B1 ≤ B0) : HurtV B1 w w' := by
 obtain ⟨h1, h2, h3, h4, h5⟩ := h
 exact ⟨h1, h2, h3, h4, fun k hk => (h5 k hk).imp_right fun ⟨a, b⟩ => ⟨by omega, b⟩⟩
theorem HurtV.trans {B0 : Nat} {a b c : World} (h : HurtV B0 a b) (k : HurtV B0 b c) : HurtV B0 a c := by
 obtain ⟨h1, h2, h3, h4, h5⟩ := h
 obtain ⟨k1, k2, k3, k4, k5⟩ := k
 refine ⟨k1.trans h1, k2.trans h2, k3.trans h3, Nat.le_trans h4 k4, fun g hg => ?_⟩
 rcases h5 g hg with e1 | ⟨hb, cur, cur', t, ht, c1, c2, c3⟩ <;> rcases k5 g (by omega) with e2 | ⟨hb2, dur, dur', u, hu, d1, d2, d3⟩
 ·exact .inl (e2.trans e1)
 ·exact .inr ⟨hb2, dur, dur', u, hu, e1 ▸ d1, d2, d3⟩
 ·exact .inr ⟨hb, cur, cur', t, ht, c1, e2.trans c2, c3⟩
 ·rw [c2] at d1
  cases d1
  refine .inr ⟨hb, cur, dur', t, ?_, c1, d2, by omega⟩
  rcases ht with ht | ⟨ht, hx⟩
  ·exact .inl ht
  ·rcases hu with hu | ⟨hu, hy⟩
   ·exact .inl hu
   ·exact .inr ⟨ht, fun x hn => (hy x hn).trans (hx x hn)⟩
theorem HurtV.size {B0 : Nat} {w w' : World} (h : HurtV B0 w w') : w.heap.size ≤ w'.heap.size := h.2.2.2.1
theorem Ext.hurtV {B0 : Nat} {a w w' : World} (h : Ext a w) (k : HurtV B0 w w') (hB : a.heap.size ≤ B0) : Ext a w' := by
 obtain ⟨k1, k2, k3, k4, k5⟩ := k
 refine ⟨k1.trans (World.grownBy.os h), k2.trans (World.grownBy.tape h), k3.trans (World.grownBy.output h), Nat.le_trans h.size k4, fun g hg _ => ?_⟩
 have := h.size
 rcases k5 g (by omega) with e1 | ⟨hb, -⟩
 ·exact e1.trans (h.heap hg)
 ·omega
theorem Bx.hurtV {B0 : Nat} {t : TypeId} {w w' : World} {g : Nat} {cs : Array Value} (h : Bx t w g cs) (he : HurtV B0 w w') (ht : t ≠ 88) (ht2 : t ≠ 106) : Bx t w' g cs := by
 rcases he.2.2.2.2 g (blk_lt h) with e1 | ⟨-, cur, cur', u, hu, c1, -⟩
 ·exact e1.trans h
 ·unfold Bx at h
  rw [h] at c1
  cases c1
  exact absurd (hu.imp_right And.left) (not_or.2 ⟨ht, ht2⟩)
theorem Bx.hurtT {B0 : Nat} {w w' : World} {g : Nat} {cs : Array Value} (h : Bx 106 w g cs) (he : HurtV B0 w w') : ∃ cs', Bx 106 w' g cs' ∧ cs'.size = cs.size ∧ ∀ x, x % 4 ≠ 0 → cs'[x]? = cs[x]? := by
 rcases he.2.2.2.2 g (blk_lt h) with e1 | ⟨-, cur, cur', u, hu, c1, c2, c3⟩
 ·exact ⟨cs, e1.trans h, rfl, fun x _ => rfl⟩
 ·unfold Bx at h
  rw [h] at c1
  cases c1
  rcases hu with hu | ⟨-, hu⟩
  ·exact absurd hu (by decide)
  ·exact ⟨cur', c2, c3, hu⟩
theorem Shp.hurtV {B0 B1 : Nat} {w w' : World} {s : Value} (h : Shp B0 w s) (he : HurtV B1 w w') : Shp B0 w' s := by
 obtain ⟨ad, l, cap, h1, h2, h3⟩ := h
 refine ⟨ad, l, cap, h1, h2, ?_⟩
 rcases h3 with h3 | ⟨g, cur, h3, h4, h5, h6⟩
 ·exact .inl h3
 ·rcases he.2.2.2.2 g (blk_lt h5) with e1 | ⟨-, cu, cu', u, hu, c1, c2, c3⟩
  ·exact .inr ⟨g, cur, h3, h4, e1.trans h5, h6⟩
  ·rw [h5] at c1
   cases c1
   exact .inr ⟨g, cu', h3, h4, c2, by omega⟩
theorem ShpQ.hurtV {B0 B1 : Nat} {w w' : World} {v : Value} (h : ShpQ B0 w v) (he : HurtV B1 w w') : ShpQ B0 w' v := by
 obtain ⟨b, s, t, h1, h2, h3⟩ := h
 exact ⟨b, s, t, h1, h2.hurtV he, h3.hurtV he⟩
theorem ShpQ.mono {B0 B1 : Nat} {w : World} {v : Value} (h : ShpQ B0 w v) (hB : B1 ≤ B0) : ShpQ B1 w v := by
 have m : ∀ s, Shp B0 w s → Shp B1 w s := fun s ⟨ad, l, cap, h1, h2, h3⟩ => ⟨ad, l, cap, h1, h2, h3.imp_right fun ⟨g, cur, a, b, c⟩ => ⟨g, cur, a, Nat.le_trans hB b, c⟩⟩
 obtain ⟨b, s, t, h1, h2, h3⟩ := h
 exact ⟨b, s, t, h1, m s h2, m t h3⟩
theorem HurtV.setCell {B0 g i : Nat} {w : World} {cur : Array Value} (h : Bx 106 w g cur) (hB : B0 ≤ g) (hi : i % 4 = 0) (u : Value) : HurtV B0 w (w.setCell ⟨g, i, none⟩ u) := by
 have hc := Chg.setCell w g i u
 refine ⟨World.grownBy.os hc, World.grownBy.tape hc, World.grownBy.output hc, hc.size, fun k hk => ?_⟩
 by_cases hkg : k = g
 ·subst hkg
  refine .inr ⟨hB, cur, _, _, .inr ⟨rfl, fun x hx => ?_⟩, h, heap_setCell_same w k i _ _ _ h, by simp⟩
  rw [Array.getElem?_setIfInBounds, if_neg (by omega)]
 ·exact .inl (hc.heap hk hkg)
def SpB (B0 n : Nat) (w : World) (g : Nat) : Prop := B0 ≤ g ∧ ∃ cs, Bx 106 w g cs ∧ n * 4 ≤ cs.size ∧ ∀ i, i < n → ∃ b a1 n1 c1 a2 n2 c2, cs[i * 4 + 1]? = some (.bool b) ∧ cs[i * 4 + 2]? = some (.slice a1 n1 c1) ∧ cs[i * 4 + 3]? = some (.slice a2 n2 c2) ∧ ShpQ B0 w (.agg #[.bool b, .slice a1 n1 c1, .slice a2 n2 c2])
def SpS (B0 : Nat) (w : World) (v : Value) : Prop := ∃ ad n cap, v = .slice ad n cap ∧ n ≤ 9223372036854775807 ∧ (n = 0 ∨ ∃ g, ad = some ⟨g, 0, none⟩ ∧ SpB B0 n w g)
theorem SpB.hurtV {B0 B1 n g : Nat} {w w' : World} (h : SpB B0 n w g) (he : HurtV B1 w w') : SpB B0 n w' g := by
 obtain ⟨h1, cs, h2, h3, h4⟩ := h
 obtain ⟨cs', k1, k2, k3⟩ := h2.hurtT he
 refine ⟨h1, cs', k1, by omega, fun i hi => ?_⟩
 obtain ⟨b, a1, n1, c1, a2, n2, c2, j1, j2, j3, j4⟩ := h4 i hi
 exact ⟨b, a1, n1, c1, a2, n2, c2, by rw [k3 _ (by omega)]; exact j1, by rw [k3 _ (by omega)]; exact j2, by rw [k3 _ (by omega)]; exact j3, j4.hurtV he⟩
theorem SpS.hurtV {B0 B1 : Nat} {w w' : World} {v : Value} (h : SpS B0 w v) (he : HurtV B1 w w') : SpS B0 w' v := by
 obtain ⟨ad, n, cap, h1, h2, h3⟩ := h
 exact ⟨ad, n, cap, h1, h2, h3.imp_right fun ⟨g, a, b⟩ => ⟨g, a, b.hurtV he⟩⟩
theorem SpS.ext {B0 : Nat} {w w' : World} {v : Value} (h : SpS B0 w v) (he : Ext w w') : SpS B0 w' v := h.hurtV (he.hurtsV 0)
theorem TO.sp {B k : Nat} {w : World} {v : Value} {m : List (Int × Rat)} (h : TO B k w v m) : SpS B w v := by
 obtain ⟨ts, h1, h2, h3⟩ := h
 obtain ⟨ad, cap, e1, -, e3, -⟩ := h2.opn
 refine ⟨ad, _, cap, e1, by have := h2.opn; obtain ⟨ad', cap', f1, f2, f3, -⟩ := this; omega, ?_⟩
 rcases Nat.eq_zero_or_pos (ts.map tmv).length with h0 | h0
 ·exact .inl h0
 obtain ⟨g, cap', rest, f1, f2, f3, f4, f5, f6⟩ := h2.hold h0
 rw [e1] at f1
 simp only [Value.slice.injEq] at f1
 refine .inr ⟨g, f1.1, f2, _, f6, by have := flatS_len h2.1.size; simp only [List.size_toArray, List.length_append]; omega, fun i hi => ?_⟩
 rw [List.length_map] at hi
 obtain ⟨t, ht⟩ : ∃ t, ts[i]? = some t := ⟨_, List.getElem?_eq_getElem hi⟩
 obtain ⟨x, hx⟩ : ∃ x, m[i]? = some x := ⟨_, List.getElem?_eq_getElem (by omega)⟩
 have hHT : HoldT g rest w ts := ⟨strN_tmv _, f6⟩
 have hb : Bx 106 w g (flatS (ts.map tmv) ++ rest).toArray := f6
 have hel : ∀ (j : Nat) (u : Value), (tmv t).cells[j]? = some u → (flatS (ts.map tmv) ++ rest).toArray[i * 4 + j]? = some u := fun j u hj => by
  rw [← hb.cell]
  exact hHT.at ht w (Ext.refl w) j u hj
 exact ⟨t.b, t.a1, t.n1, t.c1, t.a2, t.n2, t.c2, hel 1 _ rfl, hel 2 _ rfl, hel 3 _ rfl, (h3 i t x ht hx).2.1.shp⟩
end Go.Proofs.Ytdmjgjcljbogiaa
