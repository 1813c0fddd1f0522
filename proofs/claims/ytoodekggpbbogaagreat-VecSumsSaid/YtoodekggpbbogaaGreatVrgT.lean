/-
  The documents' vectors: a times one, and another one (Axpy).
-/
import Derived.Test.YtoodekggpbbogaaGreatVrfT
import Derived.Test.YtoodekggpbbogaaGreatVfcT
namespace Go.Proofs.YtoodekggpbbogaaGreat
open Go.RowKit
set_option linter.unusedVariables false
set_option linter.unusedSimpArgs false

set_option maxRecDepth 100000 in
set_option maxHeartbeats 1000000 in
/-- A list of terms, what an append of it lays. -/
theorem TL.news {k : Nat} {w : World} {v : Value} {l : List (Int × Rat)} (h : TL k w v l) : ∃ ad m cap, v = .slice ad m cap ∧ m = l.length ∧ m ≤ 9223372036854775807 ∧ ∃ ps : Ps, ps.length = m ∧ lP ps = l ∧ (∀ p ∈ ps, IsR w (ratv p.1) p.2 k) ∧ ((ad = Option.none ∧ m = 0) ∨ ∃ a, ad = some a ∧ ∀ wz, Ext w wz → ∀ (j : Nat) (u : Value), (flatS ((tsP ps).map tmv))[j]? = some u → wz.cell? (a.add j) = some u) := by
  obtain ⟨ad, m, cap, hm, rfl, hm1, hat⟩ := h.at
  cases ad with
  | none =>
    have h0 : l = [] := by
      match l, hat with
      | [], _ => rfl
      | x :: l, hat =>
        obtain ⟨g, off, h, -⟩ := hat 0 x rfl
        cases h
    subst h0
    exact ⟨_, _, _, rfl, hm, hm1, [], hm.symm, rfl, (fun p hp => by cases hp), .inl ⟨rfl, hm⟩⟩
  | some a =>
    obtain ⟨g, off, sp⟩ := a
    obtain ⟨ps, hps, hat2⟩ := exists_list (p := fun i (y : TmC × Rat) => ∃ x, l[i]? = some x ∧ y.1.c = x.1 ∧ y.2 = x.2 ∧ IsR w (ratv y.1) y.2 k ∧ sp = Option.none ∧ ∀ wz, Ext w wz → ∀ (j : Nat) (u : Value), (#[.int .i64 y.1.c, .bool y.1.b, .slice y.1.a1 y.1.n1 y.1.c1, .slice y.1.a2 y.1.n2 y.1.c2] : Array Value)[j]? = some u → wz.cell? ⟨g, off + (i * 4 + j), Option.none⟩ = some u) m (fun i hi => by
      obtain ⟨x, hx⟩ : ∃ x, l[i]? = some x := ⟨_, List.getElem?_eq_getElem (by omega)⟩
      obtain ⟨g', off', h1, b, a1, n1, c1, a2, n2, c2, hc⟩ := hat i x hx
      cases h1
      refine ⟨(⟨x.1, b, a1, n1, c1, a2, n2, c2⟩, x.2), x, hx, rfl, rfl, (hc w (Ext.refl w)).2.2.2.2, rfl, fun wz hz j u hj => ?_⟩
      obtain ⟨k0, k1, k2, k3, k4⟩ := hc wz hz
      match j, hj with
      | 0, hj => cases hj; exact k0
      | 1, hj => cases hj; exact k1
      | 2, hj => cases hj; exact k2
      | 3, hj => cases hj; exact k3
      | j + 4, hj => simp at hj)
    have hlP : lP ps = l := by
      apply List.ext_getElem?
      intro i
      unfold lP
      rw [List.getElem?_map]
      cases hi : ps[i]? with
      | none =>
        rw [Option.map_none]
        have := List.getElem?_eq_none_iff.1 hi
        exact (List.getElem?_eq_none (by omega)).symm
      | some y =>
        obtain ⟨x, h1, h2, h3, -⟩ := hat2 i y hi
        rw [Option.map_some, h1, h2, h3]
    have hR : ∀ p ∈ ps, IsR w (ratv p.1) p.2 k := fun p hp => by
      obtain ⟨i, hi, rfl⟩ := List.mem_iff_getElem.1 hp
      obtain ⟨x, h1, h2, h3, h4, -⟩ := hat2 i _ (List.getElem?_eq_getElem hi)
      exact h4
    refine ⟨_, _, _, rfl, hm, hm1, ps, hps, hlP, hR, .inr ⟨_, rfl, fun wz hz => ?_⟩⟩
    have hcell : ∀ (j : Nat) (u : Value), (flatS ((tsP ps).map tmv))[j]? = some u → wz.cell? ⟨g, off + j, Option.none⟩ = some u := by
      refine flatS_cells (n := 4) (by omega) (strN_tmv _) (p := fun j u => wz.cell? ⟨g, off + j, Option.none⟩ = some u) fun i cs hi r u hr => ?_
      unfold tsP at hi
      rw [List.getElem?_map, List.getElem?_map] at hi
      cases hpi : ps[i]? with
      | none => rw [hpi] at hi; cases hi
      | some y =>
        rw [hpi] at hi
        simp only [Option.map_some, Option.some.injEq] at hi
        unfold tmv at hi
        cases hi
        obtain ⟨x, -, -, -, -, -, h5⟩ := hat2 i y hpi
        exact h5 wz hz r u hr
    intro j u hj
    have h0 : 0 < m := by
      have := (List.getElem?_eq_some_iff.1 hj).1
      rw [flatS_len (strN_tmv _).size, List.length_map] at this
      unfold tsP at this
      rw [List.length_map, hps] at this
      omega
    obtain ⟨y, hy⟩ : ∃ y, ps[0]? = some y := ⟨_, List.getElem?_eq_getElem (by omega)⟩
    obtain ⟨x, -, -, -, -, h5, -⟩ := hat2 0 y hy
    rw [h5, Addr.add_lit]
    exact hcell j u hj
set_option maxRecDepth 100000 in
set_option maxHeartbeats 1000000 in
theorem news_one {ps : List TmC} : ∀ u ∈ flatS (ps.map tmv), u.oneCell' = true := fun u hu => by
  obtain ⟨v, hv, hu⟩ := List.mem_flatMap.1 hu
  obtain ⟨cs, rfl, -, h1⟩ := strN_tmv ps v hv
  exact Array.all_eq_true'.1 h1 u (Array.mem_toList_iff.1 hu)
set_option maxRecDepth 100000 in
set_option maxHeartbeats 1000000 in
/-- A list that is not nil has a block of its own. -/
theorem own_some {B e size n : Nat} {w : World} {v : Value} {xs : List Value} (h : w.ownsRow B e size v n xs) (hv : v ≠ .slice none 0 0) : ∃ g cap, v = .slice (some ⟨g, 0, none⟩) n cap := by
  rcases h.2 with ⟨h1, h2⟩ | ⟨g, cap, cur, h1, -⟩
  · exact absurd h1 hv
  · exact ⟨g, cap, h1⟩

set_option maxRecDepth 100000 in
set_option maxHeartbeats 8000000 in
theorem axpy5_calls (k K : Nat) (av v u : Value) (a : Rat) (l m : List (Int × Rat)) (w : World) (ha : IsR w av a k) (hl : TL k w v l) (hm : TL k w u m) (h1 : k + k ≤ K) (h2 : K ≤ 1000) (hn : m.length + l.length ≤ 1000) :
    Calls Tryz.prog 29 #[av, v, u] w fun e w' => ∃ v', e = .returned v' ∧ TO w.heap.size ((m.length + l.length) * (K + 1) + 1) w' v' (mkV (m ++ scV a l)) ∧ Ext w w' := by
  obtain ⟨ad, n, cap, hnl, rfl, hn1, hat⟩ := hl.at
  obtain ⟨adu, mn0, capu, rfl, hmn0, hmn1, ps, hpl, hlP, hR, hnews⟩ := hm.news
  obtain ⟨rb, r1, m1, d1, r2, m2, d2, rfl⟩ := ha.parts
  rw [← hnl, ← hmn0] at hn ⊢
  have HA := Lib.hid ha
  have HAT := Lib.hid hat
  have HN := Lib.hid hnl
  have HM0 := Lib.hid hmn0
  have HNW := Lib.hid hnews
  have HPS := Lib.hid (And.intro hpl (And.intro hlP hR))
  have eb := emptyT
  obtain ⟨i0, z, hi0, hi1, hi2, hz, hz1⟩ := infoT
  have HI := Lib.hid (And.intro hi0 (And.intro hi1 (And.intro hi2 (And.intro hz hz1))))
  clear ha hl hm hat hnl hmn0 hnews hpl hlP hR hi0 hi1 hi2 hz hz1
  obtain ⟨w1, hw1, e1, b1, s1⟩ := alloc1 w #[.bool rb, .slice r1 m1 d1, .slice r2 m2 d2] 30
  have hs1a : w1.heap.size = w.heap.size + 1 := s1
  obtain ⟨w2, hw2⟩ : ∃ w2, w2 = w1.alloc (.cells #[] 50) := ⟨_, rfl⟩
  have e2 : Ext w1 w2 := hw2 ▸ (Ext.refl _).alloc _
  have h0 : w2.ownsRow w1.heap.size 50 4 (.slice (some ⟨w1.heap.size, 0, none⟩) 0 0) 0 [] := hw2 ▸ (LS.empty 50 4 w1.heap.size w1 (Nat.le_refl _)).2
  have H0 := Lib.hid h0
  have hbse : w1.heap.size ≤ w2.heap.size := e2.size
  have hw2' : w2 = (w.alloc (.cells #[.bool rb, .slice r1 m1 d1, .slice r2 m2 d2] 30)).alloc (.cells #[] 50) := by rw [hw2, hw1]
  have HW2 := Lib.hid hw2'
  have HS1 := Lib.hid hs1a
  clear hw2'
  clear h0
  go_enter Tryz.func29, Tryz.ntmps29
  rcases HNW.out with ⟨rfl, hz0⟩ | ⟨aa, rfl, hnw⟩
  · subst hz0
    go_wp2_with fail
    rw [← HW2.out, ← HS1.out]
    have hp0 : ps = [] := List.eq_nil_of_length_eq_zero HPS.out.1
    obtain ⟨w3, hw3⟩ : ∃ w3, w3 = w2 := ⟨_, rfl⟩
    have hls3 : LS 50 4 w1.heap.size w3 (.slice (some ⟨w1.heap.size, 0, none⟩) 0 0) ((tsP ps).map tmv) := by
      rw [hp0, hw3]
      exact ⟨.nil 4, H0.out⟩
    have e3 : Ext w1 w3 := hw3 ▸ e2
    rw [← hw3]
    clear hp0 hw3 hw1 hw2 H0
    have hJ0 : AxJ w1 w3 K (.slice (some ⟨w1.heap.size, 0, none⟩) 0 0) (m ++ scV a (l.take 0)) := ⟨e3, ps, hls3, by rw [HPS.out.2.1]; simp [scV], fun p hp => .inl ((HPS.out.2.2 p hp).mono (by omega) |>.ext e1)⟩
    have HJ0 := Lib.hid (And.intro hJ0 (b1.ext e3))
    have HE1 := Lib.hid e1
    have hs1 : w1.heap.size = w.heap.size + 1 := s1
    clear hls3 hJ0 e3 b1 s1 e1
    go_loopw [7, 8] (fun s7 s8 wr => ∃ (i p gA capo : Nat), i ≤ n ∧ s8 = .int .i64 (i : Int) ∧ s7 = .slice (some ⟨gA, 0, none⟩) p capo ∧ Hid (p = 0 + i ∧ AxJ w1 wr K (.slice (some ⟨gA, 0, none⟩) p capo) (m ++ scV a (l.take i)) ∧ Bx 30 wr w.heap.size #[.bool rb, .slice r1 m1 d1, .slice r2 m2 d2])) (fun _ s8 _ => ((n : Int) - intOf s8).toNat)
    case atStart => exact ⟨0, 0, w1.heap.size, 0, Nat.zero_le _, rfl, rfl, Lib.hid ⟨rfl, HJ0.out⟩⟩
    case round =>
      obtain ⟨i, p, gA, capo, hi, rfl, rfl, hH⟩ := hrel
      obtain ⟨hpe, ⟨hE0, pso, hlso, hpso, hfro⟩, hbx⟩ := hH.out
      rcases Nat.eq_or_lt_of_le hi with hin | hin
      · subst hin
        have hlt : ¬ ((i : Int) < (i : Int)) := by omega
        have hJ := hH.out.2.1
        rw [show l.take i = l by rw [HN.out, List.take_length]] at hJ
        have hlen : (m ++ scV a l).length = 0 + i := by rw [List.length_append, HM0.out, HN.out]; unfold scV; rw [List.length_map]
        have HL := Lib.hid hlen
        have HJ := Lib.hid hJ
        clear hJ hlen hpe hpso hlso hfro hH HJ0
        go_wp2_with fail
        refine (make5_calls K _ _ wr (HJ.out.tl (by rw [LIM_eq]; omega)) h2 (by rw [HL.out]; exact hn)).mono ?_
        rintro e w9 ⟨v9, rfl, hto, e9⟩
        rw [HL.out] at hto
        have HTO := Lib.hid hto
        clear hto
        go_wp2
        go_ret
        exact ⟨_, rfl, HTO.out.mono (by have := hE0.size; omega), (HE1.out.trans hE0).trans e9⟩
      · have hlt : (i : Int) < (n : Int) := by omega
        obtain ⟨x, hx⟩ : ∃ x, l[i]? = some x := ⟨_, List.getElem?_eq_getElem (by rw [← HN.out]; exact hin)⟩
        obtain ⟨g, off, rfl, b', a1, n1, c1, a2, n2, c2, hcell⟩ := HAT.out i x hx
        obtain ⟨-, -, -, -, hIsR⟩ := hcell wr (HE1.out.trans hE0)
        obtain ⟨xc, xq⟩ := x
        simp only at hIsR
        have HX := Lib.hid (And.intro hx hIsR)
        have HC0 : Hid (∀ wz, Ext wr wz → wz.cell? ⟨g, off + i * 4, none⟩ = some (.int .i64 xc)) := Lib.hid fun wz hz => (hcell wz ((HE1.out.trans hE0).trans hz)).1
        have HC3 : Hid (∀ wz, Ext wr wz → ∀ (j : Nat) (v : Value), (#[.bool b', .slice a1 n1 c1, .slice a2 n2 c2] : Array Value)[j]? = some v → wz.cell? ⟨g, off + i * 4 + 1 + j, none⟩ = some v) := Lib.hid fun wz hz j v hj => by
          obtain ⟨-, k1, k2, k3, -⟩ := hcell wz ((HE1.out.trans hE0).trans hz)
          match j, hj with
          | 0, hj => cases hj; exact k1
          | 1, hj => cases hj; exact k2
          | 2, hj => cases hj; exact k3
          | j + 3, hj => simp at hj
        have hqK : szQ (a * xq) ≤ K := by have := szQ_mul HA.out.sz hIsR.sz; omega
        have HQK := Lib.hid hqK
        have ER := HE1.out.trans hE0
        have hol : ((tsP pso).map tmv).length = p := by
          have := congrArg List.length hpso
          have h2 := (List.getElem?_eq_some_iff.1 hx).1
          rw [List.length_append] at this
          unfold lP scV at this
          unfold tsP
          simp at this ⊢
          have := HM0.out
          omega
        obtain ⟨i1, hi1⟩ : ∃ i1, i1 = i + 1 := ⟨_, rfl⟩
        have hi1' : (i : Int) + 1 = (i1 : Int) := by omega
        have hi1n : i1 ≤ n := by omega
        obtain ⟨p1, hp1⟩ : ∃ p1, p1 = p + 1 := ⟨_, rfl⟩
        have HI1 := Lib.hid (And.intro hi1 (And.intro hp1 hpe))
        have hpb : p ≤ 1000 := by omega
        have HPSO := Lib.hid hpso
        have HFO := Lib.hid hfro
        have hwr := hE0.size
        obtain ⟨hgA, hgr, hgw⟩ := gT_own hlso (Ext.refl wr)
        have hgAl : gA < wr.heap.size := by obtain ⟨cs, h1⟩ := hgA; exact blk_lt h1
        have HO := Lib.hid hlso
        have HOL := Lib.hid hol
        have HGA := Lib.hid hgA
        have HGR := Lib.hid hgr
        clear hx hIsR hcell hi1 hp1 hpe hpso hqK hfro HJ0 hol hgA hgr hlso hH
        go_wp2_with fail
        refine wp_region_one gA 18 19 (fun v b => ApT w1.heap.size wr.heap.size p (xc) (a * xq) (tsP pso) (.slice (some ⟨gA, 0, none⟩) p capo) v b) [PP.val (.slice (some ⟨gA, 0, none⟩) p capo), PP.val (.slice (some ⟨g, off, none⟩) n cap), PP.val (.int .i64 (i : Int)), PP.val (.pointer (some ⟨g, off + i * 4, none⟩)), PP.val (.pointer (some ⟨g, off + i * 4, none⟩)), PP.val (.int .i64 xc), PP.val (.agg #[.bool rb, .slice r1 m1 d1, .slice r2 m2 d2]), PP.frQd a, PP.val (.slice (some ⟨g, off, none⟩) n cap), PP.val (.int .i64 (i : Int)), PP.val (.pointer (some ⟨g, off + i * 4, none⟩)), PP.val (.pointer (some ⟨g, off + i * 4 + 1, none⟩)), PP.val (.agg #[.bool b', .slice a1 n1 c1, .slice a2 n2 c2]), PP.frQd xq, PP.frQdS (a * xq) (5 * k + 5 * k), PP.frQ (a * xq), PP.frTm (xc) (a * xq), PP.oneT (xc) (a * xq), PP.any, PP.any] [(0, 19, 7)] [18, 17, 16, 15, 14, 13, 12, 11, 10, 9, 8, 7, 6, 5, 4, 3, 2, 1, 0] (by kernel_rfl) (by kernel_rfl) (fun f => (by simp only [fillR, fillL, List.setIfInBounds_toArray, List.set_cons_succ, List.set_cons_zero, Nat.reduceAdd]; rfl)) (by decide) (hgAl) (fun u w1 w2 h hp => hp.ext h) (by intro p hp; simp only [List.mem_cons, List.not_mem_nil, or_false] at hp; rcases hp with rfl | rfl | rfl | rfl | rfl | rfl | rfl | rfl | rfl | rfl | rfl | rfl | rfl | rfl | rfl | rfl | rfl | rfl | rfl | rfl <;> rfl) (fun _ _ => trivial) ?_ ?_ (by decide)
        · refine ⟨?o0, ?o1, ?o2, ?o3, ?o4, ?o5, ?o6, ?o7, ?o8, ?o9, ?o10, ?o11, ?o12, ?o13, ?o14, ?o15, ?o16, ?o17, ?o18, ?o19, trivial⟩
          case o0 =>
            intro f w7 hG hp hl
            have hE : Ext wr w7 := hG
            have hS := hE.size
            have l7 : f 19 = .slice (some ⟨gA, 0, none⟩) p capo := hl.1 rfl
            simp only [OpGoal]
            go_simp
            exact ⟨_, rfl, Ext.refl _, rfl⟩
          case o1 =>
            intro f w7 hG hp hl
            have hE : Ext wr w7 := hG
            have hS := hE.size
            simp only [OpGoal]
            go_simp
            exact ⟨_, rfl, Ext.refl _, rfl⟩
          case o2 =>
            intro f w7 hG hp hl
            have hE : Ext wr w7 := hG
            have hS := hE.size
            simp only [OpGoal]
            go_simp
            exact ⟨_, rfl, Ext.refl _, rfl⟩
          case o3 =>
            intro f w7 hG hp hl
            have hE : Ext wr w7 := hG
            have hS := hE.size
            have q19 : f 1 = .slice (some ⟨g, off, none⟩) n cap := tellO hp 0 1 rfl rfl
            have q20 : f 2 = .int .i64 (i : Int) := tellO hp 1 2 rfl rfl
            simp only [OpGoal]
            go_simp
            exact ⟨_, rfl, Ext.refl _, rfl⟩
          case o4 =>
            intro f w7 hG hp hl
            have hE : Ext wr w7 := hG
            have hS := hE.size
            have q21 : f 3 = .pointer (some ⟨g, off + i * 4, none⟩) := tellO hp 0 3 rfl rfl
            simp only [OpGoal]
            go_simp
            exact ⟨_, rfl, Ext.refl _, rfl⟩
          case o5 =>
            intro f w7 hG hp hl
            have hE : Ext wr w7 := hG
            have hS := hE.size
            have q22 : f 4 = .pointer (some ⟨g, off + i * 4, none⟩) := tellO hp 0 4 rfl rfl
            have hcell := HC0.out _ hE
            simp only [OpGoal]
            go_simp
            exact ⟨_, rfl, Ext.refl _, rfl⟩
          case o6 =>
            intro f w7 hG hp hl
            have hE : Ext wr w7 := hG
            have hS := hE.size
            change OpGoal _ _ _ f w7 Ext _
            exact og_load (P := Tryz.prog) _ _ w.heap.size _ _ _ rfl rfl rfl (hbx.ext hE) Tryz.underlying30 rfl (by kernel_rfl) rfl
          case o7 =>
            intro f w7 hG hp hl
            have hE : Ext wr w7 := hG
            have hS := hE.size
            have q24 : f 6 = .agg #[.bool rb, .slice r1 m1 d1, .slice r2 m2 d2] := tellO hp 0 6 rfl rfl
            change OpGoal _ _ _ f w7 Ext _
            refine og_call (P := Tryz.prog) _ _ _ #[f 6] Tryz.func52 (by kernel_rfl) (by kernel_rfl) rfl rfl (by kernel_rfl) ?_
            rw [q24]
            refine (rqofR_calls _ a k _ (HA.out.ext (ER.trans hE)) (by omega)).mono ?_
            rintro e w' ⟨v', rfl, h1, h2⟩
            exact ⟨v', rfl, h2, h1.mono hS⟩
          case o8 =>
            intro f w7 hG hp hl
            have hE : Ext wr w7 := hG
            have hS := hE.size
            simp only [OpGoal]
            go_simp
            exact ⟨_, rfl, Ext.refl _, rfl⟩
          case o9 =>
            intro f w7 hG hp hl
            have hE : Ext wr w7 := hG
            have hS := hE.size
            simp only [OpGoal]
            go_simp
            exact ⟨_, rfl, Ext.refl _, rfl⟩
          case o10 =>
            intro f w7 hG hp hl
            have hE : Ext wr w7 := hG
            have hS := hE.size
            have q26 : f 8 = .slice (some ⟨g, off, none⟩) n cap := tellO hp 0 8 rfl rfl
            have q27 : f 9 = .int .i64 (i : Int) := tellO hp 1 9 rfl rfl
            simp only [OpGoal]
            go_simp
            exact ⟨_, rfl, Ext.refl _, rfl⟩
          case o11 =>
            intro f w7 hG hp hl
            have hE : Ext wr w7 := hG
            have hS := hE.size
            have q28 : f 10 = .pointer (some ⟨g, off + i * 4, none⟩) := tellO hp 0 10 rfl rfl
            simp only [OpGoal]
            go_simp
            exact ⟨_, rfl, Ext.refl _, rfl⟩
          case o12 =>
            intro f w7 hG hp hl
            have hE : Ext wr w7 := hG
            have hS := hE.size
            have q29 : f 11 = .pointer (some ⟨g, off + i * 4 + 1, none⟩) := tellO hp 0 11 rfl rfl
            change OpGoal _ _ _ f w7 Ext _
            exact og_loadAt (P := Tryz.prog) _ _ g (off + i * 4 + 1) _ _ rfl rfl q29 (fun j v h => HC3.out _ hE j v h) Tryz.underlying30 rfl (by kernel_rfl) rfl
          case o13 =>
            intro f w7 hG hp hl
            have hE : Ext wr w7 := hG
            have hS := hE.size
            have q30 : f 12 = .agg #[.bool b', .slice a1 n1 c1, .slice a2 n2 c2] := tellO hp 0 12 rfl rfl
            change OpGoal _ _ _ f w7 Ext _
            refine og_call (P := Tryz.prog) _ _ _ #[f 12] Tryz.func52 (by kernel_rfl) (by kernel_rfl) rfl rfl (by kernel_rfl) ?_
            rw [q30]
            refine (rqofR_calls _ xq k _ (HX.out.2.ext hE) (by omega)).mono ?_
            rintro e w' ⟨v', rfl, h1, h2⟩
            exact ⟨v', rfl, h2, h1.mono hS⟩
          case o14 =>
            intro f w7 hG hp hl
            have hE : Ext wr w7 := hG
            have hS := hE.size
            have q25 := tellO hp 0 7 rfl rfl
            have q31 := tellO hp 1 13 rfl rfl
            change OpGoal _ _ _ f w7 Ext _
            refine og_call (P := Tryz.prog) _ _ _ #[f 7, f 13] Tryz.func55 (by kernel_rfl) (by kernel_rfl) rfl rfl (by kernel_rfl) ?_
            refine (rqmul3_calls _ _ a xq (5 * k) (5 * k) _ q25.cq q31.cq (szD_of HA.out.sz) (szD_of HX.out.2.sz) (by omega)).mono ?_
            rintro e w' ⟨v', rfl, h1, h3, h2⟩
            exact ⟨v', rfl, h2, h1.mono hS, h3⟩
          case o15 =>
            intro f w7 hG hp hl
            have hE : Ext wr w7 := hG
            have hS := hE.size
            have q32 := tellO hp 0 14 rfl rfl
            change OpGoal _ _ _ f w7 Ext _
            refine og_call (P := Tryz.prog) _ _ _ #[f 14] Tryz.func15 (by kernel_rfl) (by kernel_rfl) rfl rfl (by kernel_rfl) ?_
            refine (rqto3_calls _ (a * xq) _ q32.1.cq (by have := q32.2; omega)).mono ?_
            rintro e w' ⟨v', rfl, h1, h2⟩
            exact ⟨v', rfl, h2, h1.mono hS⟩
          case o16 =>
            intro f w7 hG hp hl
            have hE : Ext wr w7 := hG
            have hS := hE.size
            have q23 : f 5 = .int .i64 xc := tellO hp 0 5 rfl rfl
            have q33 := tellO hp 1 15 rfl rfl
            obtain ⟨tb, ta1, tn1, tc1, ta2, tn2, tc2, tv, tq⟩ := FrQ.opn (q33)
            change OpGoal _ _ _ f w7 Ext _
            simp only [OpGoal]
            go_simp
            exact ⟨_, rfl, Ext.refl _, ⟨xc, tb, ta1, tn1, tc1, ta2, tn2, tc2⟩, rfl, rfl, tq⟩
          case o17 =>
            intro f w7 hG hp hl
            have hE : Ext wr w7 := hG
            have hS := hE.size
            have q34 := tellO hp 0 16 rfl rfl
            obtain ⟨tt, tv, tc, tq⟩ := q34
            change OpGoal _ _ _ f w7 Ext _
            exact og_buildSlice (P := Tryz.prog) 22 50 1 4 _ [tmv tt] rfl rfl Tryz.underlying22 (by kernel_rfl) (by kernel_rfl) (by simp only [Act.eval]; exact congrArg (fun z => [(0, z)]) tv) rfl (by omega) (by omega) (by omega) (strN_tmv [tt]).size (fun w' he hb => ⟨_, tt, hS, rfl, hb, tc, tq.ext he⟩)
          case o18 =>
            intro f w7 hG hp hl
            have hE : Ext wr w7 := hG
            have hS := hE.size
            have q18 : f 0 = .slice (some ⟨gA, 0, none⟩) p capo := tellO hp 0 0 rfl rfl
            have q35 := tellO hp 1 17 rfl rfl
            have qL : f 0 = .slice (some ⟨gA, 0, none⟩) p capo := tellO hp 0 0 rfl rfl
            obtain ⟨gx, tt, hgx, hvx, hbx, htc, htq⟩ := tellO hp 1 17 rfl rfl
            change OpGoal _ _ _ f w7 (Chg gA) _
            refine og_append (P := Tryz.prog) _ _ 22 rfl rfl w1.heap.size 50 4 64 Tryz.underlying22 (by kernel_rfl) (by kernel_rfl) (by omega) (.slice (some ⟨gA, 0, none⟩) p capo) p (flatS ((tsP pso).map tmv)) qL (by have := (HO.out.ext ((Ext.refl wr).trans hE)).2; rw [HOL.out] at this; exact this) ⟨gx, 0, none⟩ 1 1 [.int .i64 tt.c, .bool tt.b, .slice tt.a1 tt.n1 tt.c1, .slice tt.a2 tt.n2 tt.c2] hvx rfl (fun j u hj => by rw [addr_add, Nat.zero_add, hbx.cell]; unfold tmv; simpa [Value.cells] using hj) (by intro u hu; simp at hu; rcases hu with rfl | rfl | rfl | rfl <;> rfl) (by omega) (by unfold maxLen; omega) (by omega) (by have := hE.size; omega) (fun v' w' h1 h2 h3 => ⟨HGR.out _ _ h2, ap_fin (by have := HOL.out; rw [List.length_map] at this; exact this) h1 h3 hE.size htc (htq.chg (HGR.out _ _ h2) hgAl)⟩)
          case o19 =>
            intro f w7 hG hp hl
            have hS : wr.heap.size ≤ w7.heap.size := Chg.size hG
            change OpGoal _ _ _ f w7 Ext _
            simp only [OpGoal]
            go_simp
            exact ⟨_, rfl, Ext.refl _, rfl⟩
        · intro f w7 hC hF1 hmv hp
          clear hp
          obtain ⟨tt, go, co, hv9, hls9, htc9, htq9, hgo9⟩ := id hF1
          have hf9 := (hmv (by decide)).trans hv9
          have hAJ := AxJ.app hE0 HPSO.out HFO.out (Ext.refl wr) hC HGA.out (hv9 ▸ hF1) hwr hgw HQK.out
          have HAJ := Lib.hid hAJ
          have B7 : Bx 30 w7 w.heap.size #[.bool rb, .slice r1 m1 d1, .slice r2 m2 d2] := hC.blk hbx (by omega)
          have hmm : m ++ scV a (l.take i1) = m ++ scV a (l.take i) ++ [(xc, a * xq)] := by
            rw [HI1.out.1, (take_snoc HX.out.1).1]
            unfold scV
            rw [List.map_append, List.append_assoc]
            rfl
          have HMM2 := Lib.hid hmm
          have hpp : p1 = 0 + i1 := by have := HI1.out; omega
          rw [hf9]
          clear hF1 hmv hv9 hls9 htc9 htq9 hgo9 hAJ hf9 hmm
          rw [← HI1.out.2.1]
          go_wp2
          go_roundw
          case rel => exact ⟨i1, p1, go, co, hi1n, rfl, rfl, Lib.hid ⟨hpp, by rw [HMM2.out, HI1.out.2.1]; exact HAJ.out, B7⟩⟩
          case measure => have := HI1.out; simp [intOf]; omega
  · have HNV := Lib.hid hnw
    have hlnn : (flatS ((tsP ps).map tmv)).length = mn0 * 4 := by
      rw [flatS_len (strN_tmv _).size, List.length_map]
      unfold tsP
      rw [List.length_map, HPS.out.1]
    obtain ⟨news, hnews⟩ : ∃ news, news = flatS ((tsP ps).map tmv) := ⟨_, rfl⟩
    have hone := news_one (ps := tsP ps)
    rw [← hnews] at hlnn hone
    have HN1 := Lib.hid (And.intro hnews (And.intro hlnn hone))
    clear hnw hnews hlnn hone
    go_wp2_with (at_builtin; refine wpList_append_own _ rfl _ _ 22 rfl w1.heap.size 50 i0 z 4 64 Tryz.underlying22 HI.out.1 HI.out.2.2.2.1 HI.out.2.1 HI.out.2.2.1 HI.out.2.2.2.2 (by omega) _ _ _ rfl (by rw [← HS1.out, ← HW2.out]; exact H0.out) aa mn0 capu news rfl ?qc1 ?qc2 ?qc3 ?qc4 ?qc5 ?qc6 ?_)
    case qc1 => exact HN1.out.2.1
    case qc2 =>
      intro j u hj
      rw [← HW2.out]
      exact HNV.out w2 (e1.trans e2) j u (by rw [← HN1.out.1]; exact hj)
    case qc3 => exact HN1.out.2.2
    case qc4 => rw [Nat.zero_add]; unfold maxLen; omega
    case qc5 => rw [Nat.zero_add]; omega
    case qc6 => rw [← HW2.out]; exact hbse
    intro v3 w3 hown hgrow hnil
    try rw [Nat.zero_add, List.nil_append] at hown
    rw [← HS1.out] at hown
    obtain ⟨g3, cap3, rfl⟩ := own_some hown hnil
    rw [← HW2.out] at hgrow
    have e3 : Ext w1 w3 := e2.step hgrow (by rw [HS1.out]; exact Nat.le_refl _)
    have hls3 : LS 50 4 w1.heap.size w3 (.slice (some ⟨g3, 0, none⟩) mn0 cap3) ((tsP ps).map tmv) := by
      refine ⟨strN_tmv _, ?_⟩
      rw [List.length_map]
      unfold tsP
      rw [List.length_map, HPS.out.1]
      have := hown
      rw [HN1.out.1] at this
      exact this
    clear hown hgrow hnil hw1 hw2 H0
    go_wp2_with fail
    have hJ0 : AxJ w1 w3 K (.slice (some ⟨g3, 0, none⟩) mn0 cap3) (m ++ scV a (l.take 0)) := ⟨e3, ps, hls3, by rw [HPS.out.2.1]; simp [scV], fun p hp => .inl ((HPS.out.2.2 p hp).mono (by omega) |>.ext e1)⟩
    have HJ0 := Lib.hid (And.intro hJ0 (b1.ext e3))
    have HE1 := Lib.hid e1
    have hs1 : w1.heap.size = w.heap.size + 1 := s1
    clear hls3 hJ0 e3 b1 s1 e1
    go_loopw [7, 8] (fun s7 s8 wr => ∃ (i p gA capo : Nat), i ≤ n ∧ s8 = .int .i64 (i : Int) ∧ s7 = .slice (some ⟨gA, 0, none⟩) p capo ∧ Hid (p = mn0 + i ∧ AxJ w1 wr K (.slice (some ⟨gA, 0, none⟩) p capo) (m ++ scV a (l.take i)) ∧ Bx 30 wr w.heap.size #[.bool rb, .slice r1 m1 d1, .slice r2 m2 d2])) (fun _ s8 _ => ((n : Int) - intOf s8).toNat)
    case atStart => exact ⟨0, mn0, g3, cap3, Nat.zero_le _, rfl, rfl, Lib.hid ⟨rfl, HJ0.out⟩⟩
    case round =>
      obtain ⟨i, p, gA, capo, hi, rfl, rfl, hH⟩ := hrel
      obtain ⟨hpe, ⟨hE0, pso, hlso, hpso, hfro⟩, hbx⟩ := hH.out
      rcases Nat.eq_or_lt_of_le hi with hin | hin
      · subst hin
        have hlt : ¬ ((i : Int) < (i : Int)) := by omega
        have hJ := hH.out.2.1
        rw [show l.take i = l by rw [HN.out, List.take_length]] at hJ
        have hlen : (m ++ scV a l).length = mn0 + i := by rw [List.length_append, HM0.out, HN.out]; unfold scV; rw [List.length_map]
        have HL := Lib.hid hlen
        have HJ := Lib.hid hJ
        clear hJ hlen hpe hpso hlso hfro hH HJ0
        go_wp2_with fail
        refine (make5_calls K _ _ wr (HJ.out.tl (by rw [LIM_eq]; omega)) h2 (by rw [HL.out]; exact hn)).mono ?_
        rintro e w9 ⟨v9, rfl, hto, e9⟩
        rw [HL.out] at hto
        have HTO := Lib.hid hto
        clear hto
        go_wp2
        go_ret
        exact ⟨_, rfl, HTO.out.mono (by have := hE0.size; omega), (HE1.out.trans hE0).trans e9⟩
      · have hlt : (i : Int) < (n : Int) := by omega
        obtain ⟨x, hx⟩ : ∃ x, l[i]? = some x := ⟨_, List.getElem?_eq_getElem (by rw [← HN.out]; exact hin)⟩
        obtain ⟨g, off, rfl, b', a1, n1, c1, a2, n2, c2, hcell⟩ := HAT.out i x hx
        obtain ⟨-, -, -, -, hIsR⟩ := hcell wr (HE1.out.trans hE0)
        obtain ⟨xc, xq⟩ := x
        simp only at hIsR
        have HX := Lib.hid (And.intro hx hIsR)
        have HC0 : Hid (∀ wz, Ext wr wz → wz.cell? ⟨g, off + i * 4, none⟩ = some (.int .i64 xc)) := Lib.hid fun wz hz => (hcell wz ((HE1.out.trans hE0).trans hz)).1
        have HC3 : Hid (∀ wz, Ext wr wz → ∀ (j : Nat) (v : Value), (#[.bool b', .slice a1 n1 c1, .slice a2 n2 c2] : Array Value)[j]? = some v → wz.cell? ⟨g, off + i * 4 + 1 + j, none⟩ = some v) := Lib.hid fun wz hz j v hj => by
          obtain ⟨-, k1, k2, k3, -⟩ := hcell wz ((HE1.out.trans hE0).trans hz)
          match j, hj with
          | 0, hj => cases hj; exact k1
          | 1, hj => cases hj; exact k2
          | 2, hj => cases hj; exact k3
          | j + 3, hj => simp at hj
        have hqK : szQ (a * xq) ≤ K := by have := szQ_mul HA.out.sz hIsR.sz; omega
        have HQK := Lib.hid hqK
        have ER := HE1.out.trans hE0
        have hol : ((tsP pso).map tmv).length = p := by
          have := congrArg List.length hpso
          have h2 := (List.getElem?_eq_some_iff.1 hx).1
          rw [List.length_append] at this
          unfold lP scV at this
          unfold tsP
          simp at this ⊢
          have := HM0.out
          omega
        obtain ⟨i1, hi1⟩ : ∃ i1, i1 = i + 1 := ⟨_, rfl⟩
        have hi1' : (i : Int) + 1 = (i1 : Int) := by omega
        have hi1n : i1 ≤ n := by omega
        obtain ⟨p1, hp1⟩ : ∃ p1, p1 = p + 1 := ⟨_, rfl⟩
        have HI1 := Lib.hid (And.intro hi1 (And.intro hp1 hpe))
        have hpb : p ≤ 1000 := by omega
        have HPSO := Lib.hid hpso
        have HFO := Lib.hid hfro
        have hwr := hE0.size
        obtain ⟨hgA, hgr, hgw⟩ := gT_own hlso (Ext.refl wr)
        have hgAl : gA < wr.heap.size := by obtain ⟨cs, h1⟩ := hgA; exact blk_lt h1
        have HO := Lib.hid hlso
        have HOL := Lib.hid hol
        have HGA := Lib.hid hgA
        have HGR := Lib.hid hgr
        clear hx hIsR hcell hi1 hp1 hpe hpso hqK hfro HJ0 hol hgA hgr hlso hH
        go_wp2_with fail
        refine wp_region_one gA 18 19 (fun v b => ApT w1.heap.size wr.heap.size p (xc) (a * xq) (tsP pso) (.slice (some ⟨gA, 0, none⟩) p capo) v b) [PP.val (.slice (some ⟨gA, 0, none⟩) p capo), PP.val (.slice (some ⟨g, off, none⟩) n cap), PP.val (.int .i64 (i : Int)), PP.val (.pointer (some ⟨g, off + i * 4, none⟩)), PP.val (.pointer (some ⟨g, off + i * 4, none⟩)), PP.val (.int .i64 xc), PP.val (.agg #[.bool rb, .slice r1 m1 d1, .slice r2 m2 d2]), PP.frQd a, PP.val (.slice (some ⟨g, off, none⟩) n cap), PP.val (.int .i64 (i : Int)), PP.val (.pointer (some ⟨g, off + i * 4, none⟩)), PP.val (.pointer (some ⟨g, off + i * 4 + 1, none⟩)), PP.val (.agg #[.bool b', .slice a1 n1 c1, .slice a2 n2 c2]), PP.frQd xq, PP.frQdS (a * xq) (5 * k + 5 * k), PP.frQ (a * xq), PP.frTm (xc) (a * xq), PP.oneT (xc) (a * xq), PP.any, PP.any] [(0, 19, 7)] [18, 17, 16, 15, 14, 13, 12, 11, 10, 9, 8, 7, 6, 5, 4, 3, 2, 1, 0] (by kernel_rfl) (by kernel_rfl) (fun f => (by simp only [fillR, fillL, List.setIfInBounds_toArray, List.set_cons_succ, List.set_cons_zero, Nat.reduceAdd]; rfl)) (by decide) (hgAl) (fun u w1 w2 h hp => hp.ext h) (by intro p hp; simp only [List.mem_cons, List.not_mem_nil, or_false] at hp; rcases hp with rfl | rfl | rfl | rfl | rfl | rfl | rfl | rfl | rfl | rfl | rfl | rfl | rfl | rfl | rfl | rfl | rfl | rfl | rfl | rfl <;> rfl) (fun _ _ => trivial) ?_ ?_ (by decide)
        · refine ⟨?o0, ?o1, ?o2, ?o3, ?o4, ?o5, ?o6, ?o7, ?o8, ?o9, ?o10, ?o11, ?o12, ?o13, ?o14, ?o15, ?o16, ?o17, ?o18, ?o19, trivial⟩
          case o0 =>
            intro f w7 hG hp hl
            have hE : Ext wr w7 := hG
            have hS := hE.size
            have l7 : f 19 = .slice (some ⟨gA, 0, none⟩) p capo := hl.1 rfl
            simp only [OpGoal]
            go_simp
            exact ⟨_, rfl, Ext.refl _, rfl⟩
          case o1 =>
            intro f w7 hG hp hl
            have hE : Ext wr w7 := hG
            have hS := hE.size
            simp only [OpGoal]
            go_simp
            exact ⟨_, rfl, Ext.refl _, rfl⟩
          case o2 =>
            intro f w7 hG hp hl
            have hE : Ext wr w7 := hG
            have hS := hE.size
            simp only [OpGoal]
            go_simp
            exact ⟨_, rfl, Ext.refl _, rfl⟩
          case o3 =>
            intro f w7 hG hp hl
            have hE : Ext wr w7 := hG
            have hS := hE.size
            have q19 : f 1 = .slice (some ⟨g, off, none⟩) n cap := tellO hp 0 1 rfl rfl
            have q20 : f 2 = .int .i64 (i : Int) := tellO hp 1 2 rfl rfl
            simp only [OpGoal]
            go_simp
            exact ⟨_, rfl, Ext.refl _, rfl⟩
          case o4 =>
            intro f w7 hG hp hl
            have hE : Ext wr w7 := hG
            have hS := hE.size
            have q21 : f 3 = .pointer (some ⟨g, off + i * 4, none⟩) := tellO hp 0 3 rfl rfl
            simp only [OpGoal]
            go_simp
            exact ⟨_, rfl, Ext.refl _, rfl⟩
          case o5 =>
            intro f w7 hG hp hl
            have hE : Ext wr w7 := hG
            have hS := hE.size
            have q22 : f 4 = .pointer (some ⟨g, off + i * 4, none⟩) := tellO hp 0 4 rfl rfl
            have hcell := HC0.out _ hE
            simp only [OpGoal]
            go_simp
            exact ⟨_, rfl, Ext.refl _, rfl⟩
          case o6 =>
            intro f w7 hG hp hl
            have hE : Ext wr w7 := hG
            have hS := hE.size
            change OpGoal _ _ _ f w7 Ext _
            exact og_load (P := Tryz.prog) _ _ w.heap.size _ _ _ rfl rfl rfl (hbx.ext hE) Tryz.underlying30 rfl (by kernel_rfl) rfl
          case o7 =>
            intro f w7 hG hp hl
            have hE : Ext wr w7 := hG
            have hS := hE.size
            have q24 : f 6 = .agg #[.bool rb, .slice r1 m1 d1, .slice r2 m2 d2] := tellO hp 0 6 rfl rfl
            change OpGoal _ _ _ f w7 Ext _
            refine og_call (P := Tryz.prog) _ _ _ #[f 6] Tryz.func52 (by kernel_rfl) (by kernel_rfl) rfl rfl (by kernel_rfl) ?_
            rw [q24]
            refine (rqofR_calls _ a k _ (HA.out.ext (ER.trans hE)) (by omega)).mono ?_
            rintro e w' ⟨v', rfl, h1, h2⟩
            exact ⟨v', rfl, h2, h1.mono hS⟩
          case o8 =>
            intro f w7 hG hp hl
            have hE : Ext wr w7 := hG
            have hS := hE.size
            simp only [OpGoal]
            go_simp
            exact ⟨_, rfl, Ext.refl _, rfl⟩
          case o9 =>
            intro f w7 hG hp hl
            have hE : Ext wr w7 := hG
            have hS := hE.size
            simp only [OpGoal]
            go_simp
            exact ⟨_, rfl, Ext.refl _, rfl⟩
          case o10 =>
            intro f w7 hG hp hl
            have hE : Ext wr w7 := hG
            have hS := hE.size
            have q26 : f 8 = .slice (some ⟨g, off, none⟩) n cap := tellO hp 0 8 rfl rfl
            have q27 : f 9 = .int .i64 (i : Int) := tellO hp 1 9 rfl rfl
            simp only [OpGoal]
            go_simp
            exact ⟨_, rfl, Ext.refl _, rfl⟩
          case o11 =>
            intro f w7 hG hp hl
            have hE : Ext wr w7 := hG
            have hS := hE.size
            have q28 : f 10 = .pointer (some ⟨g, off + i * 4, none⟩) := tellO hp 0 10 rfl rfl
            simp only [OpGoal]
            go_simp
            exact ⟨_, rfl, Ext.refl _, rfl⟩
          case o12 =>
            intro f w7 hG hp hl
            have hE : Ext wr w7 := hG
            have hS := hE.size
            have q29 : f 11 = .pointer (some ⟨g, off + i * 4 + 1, none⟩) := tellO hp 0 11 rfl rfl
            change OpGoal _ _ _ f w7 Ext _
            exact og_loadAt (P := Tryz.prog) _ _ g (off + i * 4 + 1) _ _ rfl rfl q29 (fun j v h => HC3.out _ hE j v h) Tryz.underlying30 rfl (by kernel_rfl) rfl
          case o13 =>
            intro f w7 hG hp hl
            have hE : Ext wr w7 := hG
            have hS := hE.size
            have q30 : f 12 = .agg #[.bool b', .slice a1 n1 c1, .slice a2 n2 c2] := tellO hp 0 12 rfl rfl
            change OpGoal _ _ _ f w7 Ext _
            refine og_call (P := Tryz.prog) _ _ _ #[f 12] Tryz.func52 (by kernel_rfl) (by kernel_rfl) rfl rfl (by kernel_rfl) ?_
            rw [q30]
            refine (rqofR_calls _ xq k _ (HX.out.2.ext hE) (by omega)).mono ?_
            rintro e w' ⟨v', rfl, h1, h2⟩
            exact ⟨v', rfl, h2, h1.mono hS⟩
          case o14 =>
            intro f w7 hG hp hl
            have hE : Ext wr w7 := hG
            have hS := hE.size
            have q25 := tellO hp 0 7 rfl rfl
            have q31 := tellO hp 1 13 rfl rfl
            change OpGoal _ _ _ f w7 Ext _
            refine og_call (P := Tryz.prog) _ _ _ #[f 7, f 13] Tryz.func55 (by kernel_rfl) (by kernel_rfl) rfl rfl (by kernel_rfl) ?_
            refine (rqmul3_calls _ _ a xq (5 * k) (5 * k) _ q25.cq q31.cq (szD_of HA.out.sz) (szD_of HX.out.2.sz) (by omega)).mono ?_
            rintro e w' ⟨v', rfl, h1, h3, h2⟩
            exact ⟨v', rfl, h2, h1.mono hS, h3⟩
          case o15 =>
            intro f w7 hG hp hl
            have hE : Ext wr w7 := hG
            have hS := hE.size
            have q32 := tellO hp 0 14 rfl rfl
            change OpGoal _ _ _ f w7 Ext _
            refine og_call (P := Tryz.prog) _ _ _ #[f 14] Tryz.func15 (by kernel_rfl) (by kernel_rfl) rfl rfl (by kernel_rfl) ?_
            refine (rqto3_calls _ (a * xq) _ q32.1.cq (by have := q32.2; omega)).mono ?_
            rintro e w' ⟨v', rfl, h1, h2⟩
            exact ⟨v', rfl, h2, h1.mono hS⟩
          case o16 =>
            intro f w7 hG hp hl
            have hE : Ext wr w7 := hG
            have hS := hE.size
            have q23 : f 5 = .int .i64 xc := tellO hp 0 5 rfl rfl
            have q33 := tellO hp 1 15 rfl rfl
            obtain ⟨tb, ta1, tn1, tc1, ta2, tn2, tc2, tv, tq⟩ := FrQ.opn (q33)
            change OpGoal _ _ _ f w7 Ext _
            simp only [OpGoal]
            go_simp
            exact ⟨_, rfl, Ext.refl _, ⟨xc, tb, ta1, tn1, tc1, ta2, tn2, tc2⟩, rfl, rfl, tq⟩
          case o17 =>
            intro f w7 hG hp hl
            have hE : Ext wr w7 := hG
            have hS := hE.size
            have q34 := tellO hp 0 16 rfl rfl
            obtain ⟨tt, tv, tc, tq⟩ := q34
            change OpGoal _ _ _ f w7 Ext _
            exact og_buildSlice (P := Tryz.prog) 22 50 1 4 _ [tmv tt] rfl rfl Tryz.underlying22 (by kernel_rfl) (by kernel_rfl) (by simp only [Act.eval]; exact congrArg (fun z => [(0, z)]) tv) rfl (by omega) (by omega) (by omega) (strN_tmv [tt]).size (fun w' he hb => ⟨_, tt, hS, rfl, hb, tc, tq.ext he⟩)
          case o18 =>
            intro f w7 hG hp hl
            have hE : Ext wr w7 := hG
            have hS := hE.size
            have q18 : f 0 = .slice (some ⟨gA, 0, none⟩) p capo := tellO hp 0 0 rfl rfl
            have q35 := tellO hp 1 17 rfl rfl
            have qL : f 0 = .slice (some ⟨gA, 0, none⟩) p capo := tellO hp 0 0 rfl rfl
            obtain ⟨gx, tt, hgx, hvx, hbx, htc, htq⟩ := tellO hp 1 17 rfl rfl
            change OpGoal _ _ _ f w7 (Chg gA) _
            refine og_append (P := Tryz.prog) _ _ 22 rfl rfl w1.heap.size 50 4 64 Tryz.underlying22 (by kernel_rfl) (by kernel_rfl) (by omega) (.slice (some ⟨gA, 0, none⟩) p capo) p (flatS ((tsP pso).map tmv)) qL (by have := (HO.out.ext ((Ext.refl wr).trans hE)).2; rw [HOL.out] at this; exact this) ⟨gx, 0, none⟩ 1 1 [.int .i64 tt.c, .bool tt.b, .slice tt.a1 tt.n1 tt.c1, .slice tt.a2 tt.n2 tt.c2] hvx rfl (fun j u hj => by rw [addr_add, Nat.zero_add, hbx.cell]; unfold tmv; simpa [Value.cells] using hj) (by intro u hu; simp at hu; rcases hu with rfl | rfl | rfl | rfl <;> rfl) (by omega) (by unfold maxLen; omega) (by omega) (by have := hE.size; omega) (fun v' w' h1 h2 h3 => ⟨HGR.out _ _ h2, ap_fin (by have := HOL.out; rw [List.length_map] at this; exact this) h1 h3 hE.size htc (htq.chg (HGR.out _ _ h2) hgAl)⟩)
          case o19 =>
            intro f w7 hG hp hl
            have hS : wr.heap.size ≤ w7.heap.size := Chg.size hG
            change OpGoal _ _ _ f w7 Ext _
            simp only [OpGoal]
            go_simp
            exact ⟨_, rfl, Ext.refl _, rfl⟩
        · intro f w7 hC hF1 hmv hp
          clear hp
          obtain ⟨tt, go, co, hv9, hls9, htc9, htq9, hgo9⟩ := id hF1
          have hf9 := (hmv (by decide)).trans hv9
          have hAJ := AxJ.app hE0 HPSO.out HFO.out (Ext.refl wr) hC HGA.out (hv9 ▸ hF1) hwr hgw HQK.out
          have HAJ := Lib.hid hAJ
          have B7 : Bx 30 w7 w.heap.size #[.bool rb, .slice r1 m1 d1, .slice r2 m2 d2] := hC.blk hbx (by omega)
          have hmm : m ++ scV a (l.take i1) = m ++ scV a (l.take i) ++ [(xc, a * xq)] := by
            rw [HI1.out.1, (take_snoc HX.out.1).1]
            unfold scV
            rw [List.map_append, List.append_assoc]
            rfl
          have HMM2 := Lib.hid hmm
          have hpp : p1 = mn0 + i1 := by have := HI1.out; omega
          rw [hf9]
          clear hF1 hmv hv9 hls9 htc9 htq9 hgo9 hAJ hf9 hmm
          rw [← HI1.out.2.1]
          go_wp2
          go_roundw
          case rel => exact ⟨i1, p1, go, co, hi1n, rfl, rfl, Lib.hid ⟨hpp, by rw [HMM2.out, HI1.out.2.1]; exact HAJ.out, B7⟩⟩
          case measure => have := HI1.out; simp [intOf]; omega
end Go.Proofs.YtoodekggpbbogaaGreat

/-
  The documents' lists of numbers: great, copied, the same.
-/
namespace Go.Proofs.YtoodekggpbbogaaGreat
open Go.RowKit
set_option linter.unusedVariables false
set_option linter.unusedSimpArgs false

set_option maxRecDepth 100000 in
set_option maxHeartbeats 1000000 in
/-- Its numbers, as they are read. -/
theorem SLQ.ql {w : World} {u : Value} {l : List RE} (h : SLQ w u l) (k : Nat) (hk : 1 ≤ k) (hk2 : k ≤ LIM) (hl : ∀ e ∈ l, e.2.1.length + e.2.2.length ≤ k) : QL k w u (l.map ratE) := by
  obtain ⟨ad, cap, h1, h2, h3, h4⟩ := h
  refine ⟨ad, cap, by rw [List.length_map]; exact h1, by rw [List.length_map]; exact h2, h3, ?_⟩
  rcases h4 with h4 | ⟨g, off, h4, h5⟩
  · exact .inl (by rw [h4]; rfl)
  · refine .inr ⟨g, off, h4, fun i x hi => ?_⟩
    rw [List.getElem?_map] at hi
    cases he : l[i]? with
    | none => rw [he] at hi; cases hi
    | some e =>
      rw [he] at hi
      simp only [Option.map_some, Option.some.injEq] at hi
      subst hi
      obtain ⟨cs, k1, k2, k4⟩ := h5 i e he
      have := hl e (List.mem_of_getElem? he)
      exact ⟨cs, k1, k2, k4.1.isR k4.2.1 k4.2.2.1 k (by omega) (by omega) hk hk2⟩
set_option maxRecDepth 100000 in
set_option maxHeartbeats 1000000 in
theorem SLQ.dig {w : World} {u : Value} {l : List RE} (h : SLQ w u l) : ∀ e ∈ l, Dig W e.2.1 ∧ Dig W e.2.2 ∧ e.2.1.length + e.2.2.length ≤ 9223372036854775807 := by
  intro e he
  obtain ⟨i, hi, rfl⟩ := List.getElem_of_mem he
  obtain ⟨ad, m, cap, -, -, -, hat⟩ := h.at
  obtain ⟨g, off, -, b, a1, n1, c1, a2, n2, c2, -, -, hR⟩ := hat i _ (List.getElem?_eq_getElem hi)
  exact (hR w (Ext.refl w)).2.2.2.2

set_option maxRecDepth 100000 in
set_option maxHeartbeats 4000000 in
theorem greatAll_calls (v : Value) (l : List RE) (w : World) (hv : SLQ w v l) :
    Calls Tryz.prog 19 #[v] w fun e w' => e = .returned (.bool (greatE l)) ∧ Ext w w' := by
  obtain ⟨ad, n, cap, hnl, rfl, hn1, hat⟩ := hv.at
  have HV := Lib.hid hv
  have HN := Lib.hid hnl
  have HAT := Lib.hid hat
  clear hnl hat hv
  go_enter Tryz.func19, Tryz.ntmps19
  go_wp2_with fail
  go_loopw [3] (fun s wr => ∃ i : Nat, i ≤ n ∧ s = .int .i64 (i : Int) ∧ Hid (∀ e ∈ l.take i, wordsE e ≤ 6) ∧ Ext w wr) (fun s _ => ((n : Int) - intOf s).toNat)
  case atStart => exact ⟨0, Nat.zero_le _, rfl, Lib.hid (fun e he => by simp at he), Ext.refl _⟩
  case round =>
    obtain ⟨i, hi, rfl, hS, hE0⟩ := hrel
    rcases Nat.eq_or_lt_of_le hi with hin | hin
    · subst hin
      have hlt : ¬ ((i : Int) < (i : Int)) := by omega
      have hall : ∀ e ∈ l, wordsE e ≤ 6 := by have := hS.out; rwa [HN.out, List.take_length] at this
      have hG : greatE l = (decide (30 < i) || decide (18 < weightE l)) := by
        rw [greatE_rest hall, ← HN.out]
      have HG := Lib.hid hG
      have HALL := Lib.hid hall
      clear hG hall
      by_cases h30 : 30 < i
      · have h30' : (30 : Int) < (i : Int) := by omega
        have HR : Hid (greatE l = true) := Lib.hid (by rw [HG.out, decide_eq_true h30]; rfl)
        go_wp2
        go_ret
        exact ⟨by rw [HR.out] <;> rfl, hE0⟩
      · have h30' : ¬ (30 : Int) < (i : Int) := by omega
        have HR : Hid (greatE l = decide (18 < weightE l)) := Lib.hid (by rw [HG.out, decide_eq_false h30]; rfl)
        go_wp2_with fail
        refine (weight_calls _ l wr (HV.out.ext hE0) (by rw [← HN.out]; omega) HALL.out).mono ?_
        rintro e w2 ⟨rfl, e2⟩
        obtain ⟨p, hp⟩ : ∃ p, p = weightE l := ⟨_, rfl⟩
        rw [← hp] at HR ⊢
        clear hp
        by_cases h18 : 18 < p
        · have h18' : (18 : Int) < (p : Int) := by omega
          have HR2 : Hid (greatE l = true) := Lib.hid (by rw [HR.out, decide_eq_true h18])
          go_wp2
          go_ret
          exact ⟨by rw [HR2.out] <;> rfl, hE0.trans e2⟩
        · have h18' : ¬ (18 : Int) < (p : Int) := by omega
          have hd18 : decide ((18 : Int) < (p : Int)) = false := decide_eq_false h18'
          have HR2 : Hid (greatE l = false) := Lib.hid (by rw [HR.out, decide_eq_false h18])
          go_wp2
          go_ret
          exact ⟨by rw [HR2.out] <;> rfl, hE0.trans e2⟩
    · have hlt : (i : Int) < (n : Int) := by omega
      obtain ⟨⟨xb, xs, xt⟩, hx⟩ : ∃ x, l[i]? = some x := ⟨_, List.getElem?_eq_getElem (by rw [← HN.out]; exact hin)⟩
      obtain ⟨g, off, rfl, b, a1, n1, c1, a2, n2, c2, -, -, hcell⟩ := HAT.out i _ hx
      obtain ⟨hc0, hc1, hc2, hR⟩ := hcell wr hE0
      have HRX := Lib.hid hR
      have HX := Lib.hid hx
      obtain ⟨p, hp⟩ : ∃ p, p = xs.length + xt.length := ⟨_, rfl⟩
      have HP := Lib.hid hp
      obtain ⟨i1, hi1⟩ : ∃ i1, i1 = i + 1 := ⟨_, rfl⟩
      have hi1' : (i : Int) + 1 = (i1 : Int) := by omega
      have hi1n : i1 ≤ n := by omega
      have HI1 := Lib.hid hi1
      clear hcell hx hR hp hi1
      go_wp2_with fail
      refine (rqwords3_calls _ xb xs xt wr HRX.out.1 HRX.out.2.2.2).mono ?_
      rintro e w2 ⟨rfl, e2⟩
      rw [← HP.out]
      by_cases h6 : 6 < p
      · have h6' : (6 : Int) < (p : Int) := by omega
        have HR : Hid (greatE l = true) := Lib.hid (greatE_words (i := i) (e := (xb, xs, xt)) HX.out (by show 6 < xs.length + xt.length; rw [← HP.out]; exact h6))
        go_wp2
        go_ret
        exact ⟨by rw [HR.out] <;> rfl, hE0.trans e2⟩
      · have h6' : ¬ (6 : Int) < (p : Int) := by omega
        have hs : ∀ e ∈ l.take i1, wordsE e ≤ 6 := by
          rw [HI1.out, List.take_add_one, HX.out]
          intro e he
          rcases List.mem_append.1 he with he | he
          · exact hS.out e he
          · simp only [Option.toList_some, List.mem_singleton] at he
            subst he
            show xs.length + xt.length ≤ 6
            rw [← HP.out]
            omega
        have HS := Lib.hid hs
        clear hs
        go_wp2
        go_roundw
        case rel => exact ⟨i1, hi1n, rfl, HS, hE0.trans e2⟩
        case measure => have := HI1.out; simp [intOf]; omega

set_option maxRecDepth 100000 in
set_option maxHeartbeats 1000000 in
theorem emptyQ (w : World) : (Instr.buildSlice 44 0 #[]).run Tryz.prog w = .ok (.slice (some ⟨w.heap.size, 0, none⟩) 0 0) (w.alloc (.cells #[] 30)) := by kernel_rfl
/-- A number copied, in memory from block B on. -/
def FrE (B : Nat) (w : World) (v : Value) (e : RE) : Prop := FrR B w v e.1 e.2.1 e.2.2
set_option maxRecDepth 100000 in
set_option maxHeartbeats 1000000 in
theorem FrE.grow {B : Nat} {w w' : World} {v : Value} {e : RE} {lv : Value} {vs : List Value} (h : FrE B w v e) (hls : LS 30 3 B w lv vs) (hg : w.grownBy w' lv.ownBlock) : FrE B w' v e := by
  rcases hls.2.2 with ⟨h1, h2⟩ | ⟨g', cap', cur, h1, h2, h3, h4⟩
  · rw [h1] at hg
    exact FrR.ext h hg
  · rw [h1] at hg
    exact FrR.chgB h hg h3 (by decide)

set_option maxRecDepth 100000 in
set_option maxHeartbeats 4000000 in
theorem copyAll_calls (v : Value) (l : List RE) (w : World) (hv : SLQ w v l) (hn : l.length ≤ 1000) (hl : ∀ e ∈ l, wordsE e ≤ 6) :
    Calls Tryz.prog 20 #[v] w fun e w' => ∃ v', e = .returned v' ∧ SLQ w' v' l ∧ Ext w w' := by
  have HD := Lib.hid hv.dig
  obtain ⟨ad, n, cap, hnl, rfl, hn1, hat⟩ := hv.at
  rw [← hnl] at hn
  have HN := Lib.hid hnl
  have HAT := Lib.hid hat
  have HW := Lib.hid hl
  have eb := emptyQ
  clear hnl hat hv hl
  go_enter Tryz.func20, Tryz.ntmps20
  go_wp2_with fail
  go_loopw [3, 4] (fun s3 s4 wr => ∃ (i : Nat) (ado : Option Addr) (capo : Nat), i ≤ n ∧ s4 = .int .i64 (i : Int) ∧ s3 = .slice ado i capo ∧ Hid (OL 30 3 w.heap.size (FrE w.heap.size) wr (.slice ado i capo) (l.take i)) ∧ Ext w wr) (fun _ s4 _ => ((n : Int) - intOf s4).toNat)
  case atStart => exact ⟨0, some ⟨w.heap.size, 0, none⟩, 0, Nat.zero_le _, rfl, rfl, Lib.hid ⟨[], LS.empty _ _ _ _ (Nat.le_refl _), rfl, fun i u y h => by simp at h⟩, (Ext.refl _).alloc _⟩
  case round =>
    obtain ⟨i, ado, capo, hi, rfl, rfl, hS, hE0⟩ := hrel
    rcases Nat.eq_or_lt_of_le hi with hin | hin
    · subst hin
      have hlt : ¬ ((i : Int) < (i : Int)) := by omega
      have hT : SLQ wr (.slice ado i capo) l := by
        have := hS.out
        rw [show l.take i = l by rw [HN.out, List.take_length]] at this
        obtain ⟨vs, h1, h2, h3⟩ := this
        exact OL.sl (t := 30) (B := w.heap.size) ⟨vs, h1, h2, fun j u y hu hy => ⟨(h3 j u y hu hy).raw, HD.out y (List.mem_of_getElem? hy)⟩⟩ (by omega)
      have HT := Lib.hid hT
      clear hT
      go_wp2
      go_ret
      exact ⟨_, rfl, HT.out, hE0⟩
    · have hlt : (i : Int) < (n : Int) := by omega
      obtain ⟨⟨xb, xs, xt⟩, hx⟩ : ∃ x, l[i]? = some x := ⟨_, List.getElem?_eq_getElem (by rw [← HN.out]; exact hin)⟩
      obtain ⟨g, off, rfl, b, a1, n1, c1, a2, n2, c2, -, -, hcell⟩ := HAT.out i _ hx
      obtain ⟨hc0, hc1, hc2, hR⟩ := hcell wr hE0
      obtain ⟨vs, hls, hvl, hvs⟩ := hS.out
      have hvi : vs.length = i := by rw [hvl, List.length_take, ← HN.out]; omega
      have htk := take_next hx
      have hw6 : xs.length + xt.length ≤ 6 := HW.out _ (List.mem_of_getElem? hx)
      subst hvi
      have HTK := Lib.hid htk
      have HLS := Lib.hid hls
      have HV := Lib.hid (And.intro hvl hvs)
      have HRX := Lib.hid hR
      have hwr := hE0.size
      clear hcell hx hls hvl hvs htk hR hS
      go_wp2_with fail
      refine (rqcopy3_calls _ xb xs xt wr HRX.out.1 (by omega) (by omega)).mono ?_
      rintro e w6 ⟨v6, rfl, r6, e6⟩
      obtain ⟨a6, l6, k6, a6', l6', k6', rfl, r6⟩ := r6.opn
      have HR6 := Lib.hid (show FrE w.heap.size w6 _ (xb, xs, xt) from r6.mono hwr)
      have hs6 := e6.size
      clear r6 hc0 hc1 hc2
      go_wp2_with (first
        | (at_builtin; go_loud (refine wpList_append_LS rfl _ _ 44 rfl 30 3 56 w.heap.size Tryz.underlying44 (by kernel_rfl) (by kernel_rfl) (by omega) _ vs rfl (HLS.out.ext (e6.trans ((Ext.refl _).alloc _))) ⟨w6.heap.size, 0, none⟩ #[.bool xb, .slice a6 l6 k6, .slice a6' l6' k6'] rfl rfl (news_new _ _ _) (by kernel_rfl) (by omega) (by omega) (by rw [alloc_size]; omega) ?_); intro g' cap2' w7 hls7 hg7 hwh7 hlt7)
        | fail)
      go_roundw
      case rel =>
        have hA := (Ext.refl w6).alloc (.cells #[.bool xb, .slice a6 l6 k6, .slice a6' l6' k6'] 30)
        refine ⟨vs.length + 1, some ⟨g', 0, none⟩, cap2', by omega, by simp, rfl, Lib.hid ?_, ((hE0.trans e6).trans hA).stepG hg7 HLS.out.ge⟩
        rw [HTK.out]
        have hLA := HLS.out.ext (e6.trans hA)
        exact OL.app (w := w6.alloc (.cells #[.bool xb, .slice a6 l6 k6, .slice a6' l6' k6'] 30)) HV.out.1 (fun i u y h1 h2 => FrR.ext (HV.out.2 i u y h1 h2) (e6.trans hA)) hls7 (fun u y h => FrE.grow h hLA hg7) (FrE.grow (FrR.ext HR6.out hA) hLA hg7)
      case measure => simp [intOf]; omega

set_option maxRecDepth 100000 in
set_option maxHeartbeats 4000000 in
set_option maxRecDepth 100000 in
set_option maxHeartbeats 1000000 in
/-- Are two lists of numbers one, form and all? -/
theorem sameAll3_calls (v u : Value) (l m : List RE) (w : World) (hv : SLQ w v l) (hu : SLQ w u m) :
    Calls Tryz.prog 24 #[v, u] w fun e w' => e = .returned (.bool (decide (l = m))) ∧ Ext w w' := by
  obtain ⟨ad, n, cap, hn, rfl, hn1, hat⟩ := hv.at
  obtain ⟨ad2, n2, cap2, hm, rfl, hm1, hat2⟩ := hu.at
  have HN := Lib.hid hn
  have HM := Lib.hid hm
  have HAT := Lib.hid hat
  have HAT2 := Lib.hid hat2
  clear hn hm hat hat2 hv hu
  go_enter Tryz.func24, Tryz.ntmps24
  by_cases hnm : n = n2
  · subst hnm
    have hz : ¬ ((n : Int) ≠ (n : Int)) := by simp
    go_wp2_with fail
    go_loopw [5] (fun s wr => ∃ i : Nat, i ≤ n ∧ s = .int .i64 (i : Int) ∧ Hid (l.take i = m.take i) ∧ Ext w wr) (fun s _ => ((n : Int) - intOf s).toNat)
    case atStart => exact ⟨0, Nat.zero_le _, rfl, Lib.hid rfl, Ext.refl _⟩
    case round =>
      obtain ⟨i, hi, rfl, hT, hE0⟩ := hrel
      rcases Nat.eq_or_lt_of_le hi with hin | hin
      · subst hin
        have hlt : ¬ ((i : Int) < (i : Int)) := by omega
        have he : l = m := by have := hT.out; rwa [HN.out, List.take_length, ← HN.out, HM.out, List.take_length] at this
        have HR := Lib.hid (decide_eq_true he)
        clear he
        go_wp2
        go_ret
        exact ⟨by rw [HR.out] <;> rfl, hE0⟩
      · have hlt : (i : Int) < (n : Int) := by omega
        obtain ⟨⟨xb, xs, xt⟩, hx⟩ : ∃ x, l[i]? = some x := ⟨_, List.getElem?_eq_getElem (by rw [← HN.out]; exact hin)⟩
        obtain ⟨⟨yb, ys, yt⟩, hy⟩ : ∃ x, m[i]? = some x := ⟨_, List.getElem?_eq_getElem (by rw [← HM.out]; exact hin)⟩
        obtain ⟨g, off, rfl, b1, a1, n1, c1, a2, n2, c2, -, -, hc⟩ := HAT.out i _ hx
        obtain ⟨g', off', rfl, b1', a1', n1', c1', a2', n2', c2', -, -, hc'⟩ := HAT2.out i _ hy
        have HC3 : Hid (∀ wz, Ext w wz → ∀ (j : Nat) (v : Value), (#[.bool b1, .slice a1 n1 c1, .slice a2 n2 c2] : Array Value)[j]? = some v → wz.cell? ⟨g, off + i * 3 + j, none⟩ = some v) := Lib.hid fun wz hz j v hj => by
          obtain ⟨k1, k2, k3, -⟩ := hc wz hz
          match j, hj with
          | 0, hj => cases hj; exact k1
          | 1, hj => cases hj; exact k2
          | 2, hj => cases hj; exact k3
          | j + 3, hj => simp at hj
        have HC3' : Hid (∀ wz, Ext w wz → ∀ (j : Nat) (v : Value), (#[.bool b1', .slice a1' n1' c1', .slice a2' n2' c2'] : Array Value)[j]? = some v → wz.cell? ⟨g', off' + i * 3 + j, none⟩ = some v) := Lib.hid fun wz hz j v hj => by
          obtain ⟨k1, k2, k3, -⟩ := hc' wz hz
          match j, hj with
          | 0, hj => cases hj; exact k1
          | 1, hj => cases hj; exact k2
          | 2, hj => cases hj; exact k3
          | j + 3, hj => simp at hj
        have HR := Lib.hid (hc wr hE0).2.2.2
        have HR' := Lib.hid (hc' wr hE0).2.2.2
        have HXY := Lib.hid (And.intro hx hy)
        obtain ⟨s, hs⟩ : ∃ s : Bool, s = decide ((xb = yb ∧ xs = ys) ∧ xt = yt) := ⟨_, rfl⟩
        have HS := Lib.hid hs
        clear hc hc' hx hy hs
        go_wp2_with fail
        refine wp_region_puts [] [PP.val (.slice (some ⟨g, off, none⟩) n cap), PP.val (.int .i64 (i : Int)), PP.val (.pointer (some ⟨g, off + i * 3, none⟩)), PP.val (.agg #[.bool b1, .slice a1 n1 c1, .slice a2 n2 c2]), PP.val (.slice (some ⟨g', off', none⟩) n cap2), PP.val (.int .i64 (i : Int)), PP.val (.pointer (some ⟨g', off' + i * 3, none⟩)), PP.val (.agg #[.bool b1', .slice a1' n1' c1', .slice a2' n2' c2']), PP.val (.bool s), PP.val (.bool (!s))] [] [0, 1, 2, 3, 4, 5, 6, 7, 8, 9]
          (by kernel_rfl) (by kernel_rfl) (fun f => (by simp only [fillR, fillL, List.setIfInBounds_toArray, List.set_cons_succ, List.set_cons_zero, Nat.reduceAdd]; rfl)) ?_ ?_ ?_ ?_ ?_
        · intro x hx; cases hx
        · intro x hx; cases hx
        · intro x hx; cases hx
        · refine ⟨?o0, ?o1, ?o2, ?o3, ?o4, ?o5, ?o6, ?o7, ?o8, ?o9, trivial⟩
          case o0 =>
            intro f w6 hG hp hl
            have hE : Ext wr w6 := hG
            have hS := hE.size
            simp only [OpGoal]
            go_simp
            exact ⟨_, rfl, Ext.refl _, rfl⟩
          case o1 =>
            intro f w6 hG hp hl
            have hE : Ext wr w6 := hG
            have hS := hE.size
            simp only [OpGoal]
            go_simp
            exact ⟨_, rfl, Ext.refl _, rfl⟩
          case o2 =>
            intro f w6 hG hp hl
            have hE : Ext wr w6 := hG
            have hS := hE.size
            have q17 : f 0 = .slice (some ⟨g, off, none⟩) n cap := tellV hp 0 0 rfl rfl (fun h => by cases h)
            have q18 : f 1 = .int .i64 (i : Int) := tellV hp 1 1 rfl rfl (fun h => by cases h)
            simp only [OpGoal]
            go_simp
            exact ⟨_, rfl, Ext.refl _, rfl⟩
          case o3 =>
            intro f w6 hG hp hl
            have hE : Ext wr w6 := hG
            have hS := hE.size
            have q19 : f 2 = .pointer (some ⟨g, off + i * 3, none⟩) := tellV hp 0 2 rfl rfl (fun h => by cases h)
            change OpGoal _ _ _ f w6 Ext _
            exact og_loadAt (P := Tryz.prog) _ _ g (off + i * 3) _ _ rfl rfl q19 (fun j v h => HC3.out _ (hE0.trans hE) j v h) Tryz.underlying30 rfl (by kernel_rfl) rfl
          case o4 =>
            intro f w6 hG hp hl
            have hE : Ext wr w6 := hG
            have hS := hE.size
            simp only [OpGoal]
            go_simp
            exact ⟨_, rfl, Ext.refl _, rfl⟩
          case o5 =>
            intro f w6 hG hp hl
            have hE : Ext wr w6 := hG
            have hS := hE.size
            simp only [OpGoal]
            go_simp
            exact ⟨_, rfl, Ext.refl _, rfl⟩
          case o6 =>
            intro f w6 hG hp hl
            have hE : Ext wr w6 := hG
            have hS := hE.size
            have q21 : f 4 = .slice (some ⟨g', off', none⟩) n cap2 := tellV hp 0 4 rfl rfl (fun h => by cases h)
            have q22 : f 5 = .int .i64 (i : Int) := tellV hp 1 5 rfl rfl (fun h => by cases h)
            simp only [OpGoal]
            go_simp
            exact ⟨_, rfl, Ext.refl _, rfl⟩
          case o7 =>
            intro f w6 hG hp hl
            have hE : Ext wr w6 := hG
            have hS := hE.size
            have q23 : f 6 = .pointer (some ⟨g', off' + i * 3, none⟩) := tellV hp 0 6 rfl rfl (fun h => by cases h)
            change OpGoal _ _ _ f w6 Ext _
            exact og_loadAt (P := Tryz.prog) _ _ g' (off' + i * 3) _ _ rfl rfl q23 (fun j v h => HC3'.out _ (hE0.trans hE) j v h) Tryz.underlying30 rfl (by kernel_rfl) rfl
          case o8 =>
            intro f w6 hG hp hl
            have hE : Ext wr w6 := hG
            have hS := hE.size
            have q20 : f 3 = .agg #[.bool b1, .slice a1 n1 c1, .slice a2 n2 c2] := tellV hp 0 3 rfl rfl (fun h => by cases h)
            have q24 : f 7 = .agg #[.bool b1', .slice a1' n1' c1', .slice a2' n2' c2'] := tellV hp 1 7 rfl rfl (fun h => by cases h)
            change OpGoal _ _ _ f w6 Ext _
            refine og_call (P := Tryz.prog) _ _ _ #[f 3, f 7] Tryz.func14 (by kernel_rfl) (by kernel_rfl) rfl rfl (by kernel_rfl) ?_
            rw [q20, q24]
            refine (rqsame3_calls _ _ xb yb xs xt ys yt _ (HR.out.1.ext hE) (HR'.out.1.ext hE)).mono ?_
            rintro e w' ⟨rfl, h2⟩
            exact ⟨_, rfl, h2, congrArg Value.bool HS.out.symm⟩
          case o9 =>
            intro f w6 hG hp hl
            have hE : Ext wr w6 := hG
            have hS := hE.size
            have q25 : f 8 = .bool s := tellV hp 0 8 rfl rfl (fun h => by cases h)
            simp only [OpGoal]
            go_simp
            exact ⟨_, rfl, Ext.refl _, rfl⟩
        · intro f w6 hG hp
          have hE : Ext wr w6 := ChgS.nil hG
          have q26 : f 9 = .bool (!s) := endV hp 9 (by decide) rfl (fun h => by cases h)
          try simp only [q26]
          clear hp
          cases s with
          | true =>
            have ht : l.take (i + 1) = m.take (i + 1) := by
              have h1 := HS.out
              have h2 := of_decide_eq_true h1.symm
              rw [List.take_add_one, List.take_add_one, HXY.out.1, HXY.out.2, hT.out, h2.1.1, h2.1.2, h2.2]
            have HT := Lib.hid ht
            clear ht
            go_wp2
            go_roundw
            case rel => exact ⟨i + 1, by omega, congrArg (Value.int .i64) (by omega), HT, hE0.trans hE⟩
            case measure => simp [intOf]; omega
          | false =>
            have he : l ≠ m := fun h => by
              have h1 := of_decide_eq_false HS.out.symm
              have h2 := HXY.out.1.symm.trans ((congrArg (fun z => z[i]?) h).trans HXY.out.2)
              simp only [Option.some.injEq, Prod.mk.injEq] at h2
              exact h1 ⟨⟨h2.1, h2.2.1⟩, h2.2.2⟩
            have HR := Lib.hid (decide_eq_false he)
            clear he
            go_wp2
            go_ret
            exact ⟨by rw [HR.out] <;> rfl, hE0.trans hE⟩
  · have he : l ≠ m := fun h => hnm (by rw [HN.out, HM.out, h])
    have hz : (n : Int) ≠ (n2 : Int) := by omega
    have HR := Lib.hid (decide_eq_false he)
    clear he
    go_wp2
    go_ret
    exact ⟨by rw [HR.out] <;> rfl, Ext.refl _⟩
set_option maxRecDepth 100000 in
set_option maxHeartbeats 1000000 in
theorem sameAll_true (v u : Value) (l : List RE) (w : World) (hv : SLQ w v l) (hu : SLQ w u l) : Calls Tryz.prog 24 #[v, u] w fun e w' => e = .returned (.bool true) ∧ Ext w w' := by
  refine (sameAll3_calls v u l l w hv hu).mono ?_
  rintro e w' ⟨rfl, h⟩
  exact ⟨by simp, h⟩
end Go.Proofs.YtoodekggpbbogaaGreat

/-
  A list of numbers as a vector (vec.Gather); the document's product with a list (Dot).
-/
namespace Go.Proofs.YtoodekggpbbogaaGreat
open Go.RowKit
set_option linter.unusedVariables false
set_option linter.unusedSimpArgs false

/-- The first i numbers of a list, each at its place. -/
def gaN (xs : List Rat) (i : Nat) : List (Int × Rat) := (List.range i).map fun (j : Nat) => ((j : Int), xs.getD j 0)
set_option maxRecDepth 100000 in
set_option maxHeartbeats 1000000 in
theorem gaN_snoc {xs : List Rat} {i : Nat} {x : Rat} (h : xs[i]? = some x) : gaN xs (i + 1) = gaN xs i ++ [((i : Int), x)] := by
  unfold gaN
  rw [List.range_succ, List.map_append, List.map_singleton, List.getD_eq_getElem?_getD, h]
  rfl
set_option maxRecDepth 100000 in
set_option maxHeartbeats 1000000 in
theorem gaN_len (xs : List Rat) (i : Nat) : (gaN xs i).length = i := by unfold gaN; simp
/-- Terms that point to the list's numbers, as far as they have been laid. -/
def GaJ (w wr : World) (k i : Nat) (xs : List Rat) (lv : Value) (vs : List Value) : Prop := Ext w wr ∧ LS 50 4 w.heap.size wr lv vs ∧ vs.length = i ∧ ∃ ps : Ps, vs = (tsP ps).map tmv ∧ lP ps = gaN xs i ∧ ∀ p ∈ ps, IsR w (ratv p.1) p.2 k
set_option maxRecDepth 100000 in
set_option maxHeartbeats 1000000 in
theorem GaJ.tl {w wr : World} {k i : Nat} {xs : List Rat} {lv : Value} {vs : List Value} (h : GaJ w wr k i xs lv vs) : TL k wr lv (gaN xs i) := by
  obtain ⟨h1, h2, h3, ps, rfl, h5, h6⟩ := h
  rw [← h5]
  exact LS.tl h2 fun p hp => (h6 p hp).ext h1
set_option maxRecDepth 100000 in
set_option maxHeartbeats 1000000 in
theorem GaJ.app {w wr w7 : World} {k i : Nat} {xs : List Rat} {lv v' : Value} {vs : List Value} {x : Rat} {b : Bool} {a1 a2 : Option Addr} {n1 c1 n2 c2 : Nat} (h : GaJ w wr k i xs lv vs) (hE : Ext w w7) (hls : LS 50 4 w.heap.size w7 v' (vs ++ [.agg #[.int .i64 (i : Int), .bool b, .slice a1 n1 c1, .slice a2 n2 c2]])) (hx : xs[i]? = some x) (hR : IsR w (.agg #[.bool b, .slice a1 n1 c1, .slice a2 n2 c2]) x k) : GaJ w w7 k (i + 1) xs v' (vs ++ [.agg #[.int .i64 (i : Int), .bool b, .slice a1 n1 c1, .slice a2 n2 c2]]) := by
  obtain ⟨h1, h2, h3, ps, rfl, h5, h6⟩ := h
  refine ⟨hE, hls, by rw [List.length_append, h3]; rfl, ps ++ [(⟨i, b, a1, n1, c1, a2, n2, c2⟩, x)], ?_, ?_, fun p hp => ?_⟩
  · rw [tsP_snoc, List.map_append]
    rfl
  · rw [lP_snoc, h5, gaN_snoc hx]
  · rcases List.mem_append.1 hp with hp | hp
    · exact h6 p hp
    · rw [List.mem_singleton] at hp
      subst hp
      exact hR

set_option maxRecDepth 100000 in
set_option maxHeartbeats 4000000 in
theorem gather_calls (k : Nat) (v : Value) (xs : List Rat) (w : World) (hx : QL k w v xs) (hn : xs.length ≤ 1073741824) (hk : (xs.length + 1) * (k + 1) ≤ 34359738000) :
    Calls Tryz.prog 22 #[v] w fun e w' => ∃ v', e = .returned v' ∧ TO w.heap.size (xs.length * (k + 1)) w' v' (mkV (gaN xs xs.length)) ∧ Ext w w' := by
  obtain ⟨ad, n, cap, hnl, rfl, hn1, hat⟩ := hx.at
  rw [← hnl] at hn hk ⊢
  have HN := Lib.hid hnl
  have HAT := Lib.hid hat
  have HK := Lib.hid hk
  clear hnl hx hat hk
  go_enter Tryz.func22, Tryz.ntmps22
  go_wp2_with fail
  go_loopw [3, 8] (fun s3 s8 wr => ∃ (i : Nat) (vs : List Value) (ado : Option Addr) (capo : Nat), i ≤ n ∧ s8 = .int .i64 (i : Int) ∧ s3 = .slice ado i capo ∧ Hid (GaJ w wr k i xs (.slice ado i capo) vs)) (fun _ s8 _ => ((n : Int) - intOf s8).toNat)
  case atStart => exact ⟨0, [], none, 0, Nat.zero_le _, rfl, rfl, Lib.hid ⟨Ext.refl _, LS.nil _ _ _ _, rfl, [], rfl, rfl, fun p hp => by cases hp⟩⟩
  case round =>
    obtain ⟨i, vs, ado, capo, hi, rfl, rfl, hH⟩ := hrel
    have hE0 := hH.out.1
    rcases Nat.eq_or_lt_of_le hi with hin | hin
    · subst hin
      have hlt : ¬ ((i : Int) < (i : Int)) := by omega
      have HT := Lib.hid hH.out.tl
      go_wp2_with fail
      refine (vmake_calls k _ _ wr HT.out (by rw [gaN_len]; exact hn) (by rw [gaN_len]; exact HK.out)).mono ?_
      rw [gaN_len]
      rintro e w2 ⟨v2, rfl, t2, e2⟩
      have T2 := Lib.hid (t2.mono hE0.size)
      clear t2
      go_wp2
      go_ret
      exact ⟨_, rfl, T2.out, hE0.trans e2⟩
    · have hlt : (i : Int) < (n : Int) := by omega
      obtain ⟨x, hx⟩ : ∃ x, xs[i]? = some x := ⟨_, List.getElem?_eq_getElem (by rw [← HN.out]; exact hin)⟩
      obtain ⟨g, off, rfl, b, a1, n1, c1, a2, n2, c2, hcell, hR⟩ := HAT.out i x hx
      have hc0 := hcell wr hE0 0 _ rfl
      have hc1 := hcell wr hE0 1 _ rfl
      have hc2 := hcell wr hE0 2 _ rfl
      simp only [Nat.add_zero] at hc0
      have HX := Lib.hid (And.intro hx hR)
      have hvi : vs.length = i := hH.out.2.2.1
      subst hvi
      have hwr := hE0.size
      obtain ⟨w5, hw5, e5, b5, s5⟩ := alloc1 wr #[.bool b, .slice a1 n1 c1, .slice a2 n2 c2] 30
      have hd0 := b5.cell 0
      have hd1 := b5.cell 1
      have hd2 := b5.cell 2
      have hls5 : Hid (LS 50 4 w.heap.size w5 (.slice ado vs.length capo) vs) := Lib.hid (hH.out.2.1.ext e5)
      rw [hw5] at hd0 hd1 hd2
      have HW5 := Lib.hid hw5
      clear hcell hx hR hw5
      have hs5 : w5.heap.size = wr.heap.size + 1 := s5
      go_wp2_with (first
        | (at_builtin; go_loud (refine wpList_append_LS rfl _ _ 22 rfl 50 4 64 w.heap.size Tryz.underlying22 (by kernel_rfl) (by kernel_rfl) (by omega) _ vs rfl (by rw [← HW5.out]; exact hls5.out.ext ((Ext.refl _).alloc _)) ⟨wr.heap.size + 1, 0, none⟩ #[.int .i64 (vs.length : Int), .bool b, .slice a1 n1 c1, .slice a2 n2 c2] rfl rfl (by rw [← HW5.out, ← hs5]; exact news_new _ _ _) (by kernel_rfl) (by omega) (by omega) (by rw [alloc_size, ← HW5.out]; omega) ?_); intro g' cap2' w7 hls7 hg7 hwh7 hlt7)
        | fail)
      go_roundw
      case rel =>
        rw [← HW5.out] at hg7
        have hA := (Ext.refl w5).alloc (.cells #[.int .i64 (vs.length : Int), .bool b, .slice a1 n1 c1, .slice a2 n2 c2] 50)
        have hE7 : Ext w w7 := ((hE0.trans e5).trans hA).stepG hg7 hls5.out.ge
        exact ⟨vs.length + 1, _, some ⟨g', 0, none⟩, cap2', by omega, by simp, rfl, Lib.hid (hH.out.app hE7 hls7 HX.out.1 HX.out.2)⟩
      case measure => simp [intOf]; omega
set_option maxRecDepth 100000 in
set_option maxHeartbeats 1000000 in
theorem dotS_snoc (f : Int → Rat) (ys : List Rat) (y : Rat) : ∀ c, dotS f (ys ++ [y]) c = dotS f ys c + f (c + (ys.length : Int)) * y := by
  induction ys with
  | nil => intro c; simp [dotS, Rat.zero_add, Rat.add_zero]
  | cons x ys ih =>
    intro c
    rw [List.cons_append]
    simp only [dotS, ih]
    rw [List.length_cons, Rat.add_assoc, show c + 1 + (ys.length : Int) = c + ((ys.length + 1 : Nat) : Int) by omega]

set_option maxRecDepth 100000 in
set_option maxHeartbeats 4000000 in
theorem dot5_calls (k : Nat) (v u : Value) (l : List (Int × Rat)) (xs : List Rat) (w : World) (hl : TL k w v l) (hx : QL k w u xs) (hk : k ≤ 1000) (hn : l.length ≤ 1000) (hnx : xs.length ≤ 1000) :
    Calls Tryz.prog 23 #[v, u] w fun e w' => ∃ v', e = .returned v' ∧ FrQd w.heap.size w' v' (dotV l xs) ∧ szD (dotV l xs) ≤ 68719476736 ∧ Ext w w' := by
  obtain ⟨ad, n, cap, hnl, rfl, hn1, hat⟩ := hx.at
  rw [← hnl] at hnx
  have HN := Lib.hid hnl
  have HAT := Lib.hid hat
  have HL := Lib.hid hl
  have HNL := Lib.hid hn
  obtain ⟨G, hG⟩ : ∃ G, G = l.length * (5 * k + 1) + 1 := ⟨_, rfl⟩
  have hGb : G ≤ 5001001 := by
    have : l.length * (5 * k + 1) ≤ 1000 * 5001 := Nat.mul_le_mul (by omega) (by omega)
    omega
  have HG := Lib.hid hG
  obtain ⟨C, hC1, hC2⟩ : ∃ C : Nat, C ≤ 5006002 ∧ 5006002 ≤ C := ⟨5006002, Nat.le_refl _, Nat.le_refl _⟩
  clear hnl hx hat hl hn hG
  obtain ⟨q, hq⟩ : ∃ q : Nat → Rat, q = fun i => dotS (getV l) (xs.take i) 0 := ⟨_, rfl⟩
  have hq0 : q 0 = 0 := by rw [hq]; rfl
  have hqn : q n = dotV l xs := by rw [hq, dotV_sum]; simp only; rw [HN.out, List.take_length]
  have hqs : ∀ (i : Nat) (x : Rat), xs[i]? = some x → q (i + 1) = q i + getV l (i : Int) * x := fun i x hi => by
    rw [hq]
    simp only
    rw [take_next hi, dotS_snoc, Int.zero_add, List.length_take, Nat.min_eq_left (Nat.le_of_lt (List.getElem?_eq_some_iff.1 hi).1)]
  have HQ0 := Lib.hid hq0
  have HQN := Lib.hid hqn
  have HQS := Lib.hid hqs
  clear hq hq0 hqn hqs
  rw [← HQN.out]
  go_enter Tryz.func23, Tryz.ntmps23
  obtain ⟨w1, hw1, e1, b1, s1⟩ := alloc1 w #[.bool false, .slice none 0 0, .slice none 0 0] 39
  go_wp2_with fail
  rw [← hw1]
  refine (rqsmall3_calls 0 _ (by omega) (by omega)).mono ?_
  rintro e w2 ⟨v2, rfl, q2, e2⟩
  obtain ⟨b, ad2, l2, cap2, bd, m2, dap, rfl, q2⟩ := q2.opn
  have Hq2 := Lib.hid q2
  obtain ⟨w3, hw3, e3, b3, s3⟩ := alloc1 w2 #[.bool b, .slice ad2 l2 cap2, .slice bd m2 dap] 39
  clear q2
  go_wp2_with fail
  rw [← hw3]
  have HJ : DtJ w w3 w2.heap.size (0 * C + 1) (q 0) := ⟨(e1.trans e2).trans e3, _, _, _, _, _, _, _, b3, by rw [HQ0.out]; exact (Hq2.out.ext e3).mono e1.size, by rw [HQ0.out]; have : szD 0 ≤ 1 := (by decide); rw [Nat.zero_mul]; exact this⟩
  have HJ0 := Lib.hid HJ
  have hs2 : w.heap.size < w2.heap.size := by have := e1.size; have := e2.size; have := b1.lt; have := s1; omega
  obtain ⟨g5, hg5⟩ : ∃ g5, g5 = w2.heap.size := ⟨_, rfl⟩
  rw [← hg5] at HJ0 hs2 ⊢
  have B1 : Bx 39 w3 w.heap.size #[.bool false, .slice none 0 0, .slice none 0 0] := (b1.ext e2).ext e3
  clear HJ hw1 hw3 hg5 Hq2
  go_loopw [6] (fun s6 wr => ∃ i : Nat, i ≤ n ∧ s6 = .int .i64 (i : Int) ∧ Hid (DtJ w wr g5 (i * C + 1) (q i) ∧ Bx 39 wr w.heap.size #[.bool false, .slice none 0 0, .slice none 0 0])) (fun s6 _ => ((n : Int) - intOf s6).toNat)
  case atStart => exact ⟨0, Nat.zero_le _, rfl, Lib.hid ⟨HJ0.out, B1⟩⟩
  case round =>
    obtain ⟨i, hi, rfl, hH⟩ := hrel
    obtain ⟨⟨hE0, rb, r1, m1, d1, r2, m2', d2, hbx, hq, hsz⟩, hB0⟩ := hH.out
    have HQ := Lib.hid hq
    have HSZ := Lib.hid hsz
    clear hq hsz hH HJ0 B1 b1 b3 e1 e2 e3 s1 s3
    rcases Nat.eq_or_lt_of_le hi with hin | hin
    · subst hin
      have hlt : ¬ ((i : Int) < (i : Int)) := by omega
      have hcx0 := hbx.cell 0
      have hcx1 := hbx.cell 1
      have hcx2 := hbx.cell 2
      have hb := hB0
      have hc0 := hb.cell 0
      have hc1 := hb.cell 1
      have hc2 := hb.cell 2
      have hf0 := hb.free 0
      have hf1 := hb.free 1
      have hf2 := hb.free 2
      clear hbx
      have hszw := hE0.size
      go_wp2
      refine ret_box 4 39 w.heap.size 39 _ _ (by kernel_rfl) rfl (((hb.set 0 _).set 1 _).set 2 _) Tryz.underlying39 rfl (by kernel_rfl) rfl ?_
      exact ⟨_, rfl, HQ.out.chgN (Chg.trans (Chg.trans (Chg.setCell _ w.heap.size 0 _) (Chg.setCell _ w.heap.size 1 _)) (Chg.setCell _ w.heap.size 2 _)) hB0 (((hb.set 0 _).set 1 _).set 2 _) (by decide) (by decide), by have := HSZ.out; have h3 : i * C ≤ 1000 * 5006002 := Nat.mul_le_mul (by omega) hC1; omega, hE0.step (Chg.trans (Chg.trans (Chg.setCell _ w.heap.size 0 _) (Chg.setCell _ w.heap.size 1 _)) (Chg.setCell _ w.heap.size 2 _)) (by omega)⟩
    · have hlt : (i : Int) < (n : Int) := by omega
      obtain ⟨x, hx⟩ : ∃ x, xs[i]? = some x := ⟨_, List.getElem?_eq_getElem (by rw [← HN.out]; exact hin)⟩
      obtain ⟨g, off, rfl, b', a1, n1, c1, a2, n2, c2, hcell, hR⟩ := HAT.out i x hx
      have HC := Lib.hid hcell
      have hmul : i * C + C = (i + 1) * C := (Nat.succ_mul i C).symm
      have hic : i * C ≤ 1000 * 5006002 := Nat.mul_le_mul (by omega) hC1
      have HX := Lib.hid hR
      have HQS1 := Lib.hid (HQS.out i x hx)
      obtain ⟨y, hy⟩ : ∃ y, y = getV l (i : Int) := ⟨_, rfl⟩
      rw [← hy] at HQS1
      have HY := Lib.hid hy
      clear hx hR hcell hy
      go_wp2_with fail
      have h5g : g5 < wr.heap.size := hbx.lt
      refine wp_region_puts [⟨11, g5, 39, PP.frQdS (q i + y * x) ((i + 1) * C + 1)⟩] [PP.val (.agg #[.bool rb, .slice r1 m1 d1, .slice r2 m2' d2]), PP.val (v), PP.val (.int .i64 (i : Int)), PP.frQdS y G, PP.val (.slice (some ⟨g, off, none⟩) n cap), PP.val (.int .i64 (i : Int)), PP.val (.pointer (some ⟨g, off + i * 3, none⟩)), PP.val (.agg #[.bool b', .slice a1 n1 c1, .slice a2 n2 c2]), PP.frQd x, PP.frQdS (y * x) (G + 5 * k), PP.frQdS (q i + y * x) ((i + 1) * C + 1), PP.any] [] [11, 10, 9, 8, 7, 6, 5, 4, 3, 2, 1, 0]
        (by kernel_rfl) (by kernel_rfl) (fun f => (by simp only [fillR, fillL, List.setIfInBounds_toArray, List.set_cons_succ, List.set_cons_zero, Nat.reduceAdd]; rfl)) ?_ ?_ ?_ ?_ ?_
      · intro x hx; simp only [List.mem_singleton] at hx; subst hx; exact ⟨by show g5 < wr.heap.size; omega, rfl⟩
      · intro x hx; simp only [List.mem_singleton] at hx; subst hx; rfl
      · intro x hx y hy h; simp only [List.mem_singleton] at hx hy; subst hx hy; exact absurd rfl h
      · refine ⟨?o0, ?o1, ?o2, ?o3, ?o4, ?o5, ?o6, ?o7, ?o8, ?o9, ?o10, ?o11, trivial⟩
        case o0 =>
          intro f w6 hG hp hl
          have hE : Ext wr w6 := hG
          have hS := hE.size
          change OpGoal _ _ _ f w6 Ext _
          exact og_load (P := Tryz.prog) _ _ g5 _ _ _ rfl rfl rfl (hbx.ext hE) Tryz.underlying39 rfl (by kernel_rfl) rfl
        case o1 =>
          intro f w6 hG hp hl
          have hE : Ext wr w6 := hG
          have hS := hE.size
          simp only [OpGoal]
          go_simp
          exact ⟨_, rfl, Ext.refl _, rfl⟩
        case o2 =>
          intro f w6 hG hp hl
          have hE : Ext wr w6 := hG
          have hS := hE.size
          simp only [OpGoal]
          go_simp
          exact ⟨_, rfl, Ext.refl _, rfl⟩
        case o3 =>
          intro f w6 hG hp hl
          have hE : Ext wr w6 := hG
          have hS := hE.size
          have q15 : f 1 = v := tellV hp 0 1 rfl rfl (fun h => by cases h)
          have q16 : f 2 = .int .i64 (i : Int) := tellV hp 1 2 rfl rfl (fun h => by cases h)
          change OpGoal _ _ _ f w6 Ext _
          refine og_call (P := Tryz.prog) _ _ _ #[f 1, f 2] Tryz.func16 (by kernel_rfl) (by kernel_rfl) rfl rfl (by kernel_rfl) ?_
          rw [q15, q16]
          refine (get5_calls k _ (i : Int) l _ (HL.out.ext (hE0.trans hE)) hk (by have := HNL.out; omega)).mono ?_
          rw [← HY.out, ← HG.out]
          rintro e w' ⟨v', rfl, h1, h3, h2⟩
          exact ⟨v', rfl, h2, h1.mono hS, h3⟩
        case o4 =>
          intro f w6 hG hp hl
          have hE : Ext wr w6 := hG
          have hS := hE.size
          simp only [OpGoal]
          go_simp
          exact ⟨_, rfl, Ext.refl _, rfl⟩
        case o5 =>
          intro f w6 hG hp hl
          have hE : Ext wr w6 := hG
          have hS := hE.size
          simp only [OpGoal]
          go_simp
          exact ⟨_, rfl, Ext.refl _, rfl⟩
        case o6 =>
          intro f w6 hG hp hl
          have hE : Ext wr w6 := hG
          have hS := hE.size
          have q18 : f 4 = .slice (some ⟨g, off, none⟩) n cap := tellV hp 0 4 rfl rfl (fun h => by cases h)
          have q19 : f 5 = .int .i64 (i : Int) := tellV hp 1 5 rfl rfl (fun h => by cases h)
          simp only [OpGoal]
          go_simp
          exact ⟨_, rfl, Ext.refl _, rfl⟩
        case o7 =>
          intro f w6 hG hp hl
          have hE : Ext wr w6 := hG
          have hS := hE.size
          have q20 : f 6 = .pointer (some ⟨g, off + i * 3, none⟩) := tellV hp 0 6 rfl rfl (fun h => by cases h)
          change OpGoal _ _ _ f w6 Ext _
          exact og_loadAt (P := Tryz.prog) _ _ g (off + i * 3) _ _ rfl rfl q20 (fun j v h => HC.out _ (hE0.trans hE) j v h) Tryz.underlying30 rfl (by kernel_rfl) rfl
        case o8 =>
          intro f w6 hG hp hl
          have hE : Ext wr w6 := hG
          have hS := hE.size
          have q21 : f 7 = .agg #[.bool b', .slice a1 n1 c1, .slice a2 n2 c2] := tellV hp 0 7 rfl rfl (fun h => by cases h)
          change OpGoal _ _ _ f w6 Ext _
          refine og_call (P := Tryz.prog) _ _ _ #[f 7] Tryz.func52 (by kernel_rfl) (by kernel_rfl) rfl rfl (by kernel_rfl) ?_
          rw [q21]
          refine (rqofR_calls _ x k _ (HX.out.ext (hE0.trans hE)) hk).mono ?_
          rintro e w' ⟨v', rfl, h1, h2⟩
          exact ⟨v', rfl, h2, h1.mono hS⟩
        case o9 =>
          intro f w6 hG hp hl
          have hE : Ext wr w6 := hG
          have hS := hE.size
          have q17 := tellV hp 0 3 rfl rfl (fun _ => hE)
          have q22 := tellV hp 1 8 rfl rfl (fun _ => hE)
          change OpGoal _ _ _ f w6 Ext _
          refine og_call (P := Tryz.prog) _ _ _ #[f 3, f 8] Tryz.func55 (by kernel_rfl) (by kernel_rfl) rfl rfl (by kernel_rfl) ?_
          refine (rqmul3_calls _ _ y x G (5 * k) _ q17.1.cq q22.cq q17.2 (szD_of HX.out.sz) (by omega)).mono ?_
          rintro e w' ⟨v', rfl, h1, h3, h2⟩
          exact ⟨v', rfl, h2, h1.mono hS, h3⟩
        case o10 =>
          intro f w6 hG hp hl
          have hE : Ext wr w6 := hG
          have hS := hE.size
          have q14 : f 0 = .agg #[.bool rb, .slice r1 m1 d1, .slice r2 m2' d2] := tellV hp 0 0 rfl rfl (fun h => by cases h)
          have q23 := tellV hp 1 9 rfl rfl (fun _ => hE)
          change OpGoal _ _ _ f w6 Ext _
          refine og_call (P := Tryz.prog) _ _ _ #[f 0, f 9] Tryz.func51 (by kernel_rfl) (by kernel_rfl) rfl rfl (by kernel_rfl) ?_
          rw [q14]
          refine (rqadd3_calls _ _ (q i) (y * x) (i * C + 1) (G + 5 * k) _ (HQ.out.ext hE).cq q23.1.cq HSZ.out q23.2 (by omega)).mono ?_
          rintro e w' ⟨v', rfl, h1, h3, h2⟩
          exact ⟨v', rfl, h2, h1.mono hS, by omega⟩
        case o11 =>
          intro f w6 hG hp hl
          have hE : Ext wr w6 := hG
          have hS := hE.size
          have q24 := tellV hp 0 10 rfl rfl (fun _ => hE)
          intro hg0
          change OpGoal _ _ _ f w6 (Chg _) _
          obtain ⟨⟨s', t', hv, hn, hm⟩, hsz⟩ := q24
          exact og_store (P := Tryz.prog) _ _ _ g5 _ _ _ (PP.frQdS _ _ : PP _).p rfl rfl rfl hv (show Bx 39 w6 _ _ from hg0.trans hbx) (by kernel_rfl) rfl (all3 rfl hn.oneCell hm.oneCell) (fun w' h => ⟨⟨s', t', rfl, hn.chg h (by omega), hm.chg h (by omega)⟩, hsz⟩)
      · intro f w6 hG hp
        obtain ⟨cs0, hbx0, hz0⟩ : ∃ cs, Bx 39 w6 g5 cs ∧ (PP.frQdS (q i + y * x) ((i + 1) * C + 1) : PP wr.heap.size).p (.agg cs) w6 := endS hp 11 (by decide)
        clear hp
        obtain ⟨hz1, hz2⟩ := hz0
        obtain ⟨b6, a6, l6, cap6, a7, l7, cap7, hvv, hz1⟩ := hz1.opn
        cases hvv
        have Hq6 := Lib.hid hz1
        have Z6 := Lib.hid hz2
        have hsz6 := hE0.size
        have E6 : Ext w w6 := hE0.stepS hG (by simp; omega)
        have B06 : Bx 39 w6 w.heap.size #[.bool false, .slice none 0 0, .slice none 0 0] := hB0.chgS hG (by simp; omega)
        clear hz1 hz2
        go_wp2
        go_roundw
        case rel =>
          refine ⟨i + 1, by omega, congrArg (Value.int .i64) (by omega), Lib.hid ⟨⟨E6, _, _, _, _, _, _, _, hbx0, ?_, ?_⟩, B06⟩⟩
          · rw [HQS1.out]
            exact Hq6.out.mono hsz6
          · rw [HQS1.out]
            exact Z6.out
        case measure => simp [intOf]; omega
end Go.Proofs.YtoodekggpbbogaaGreat
