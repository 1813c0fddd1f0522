/-
  What the laws share: small fractions, the document's examples, how great a fraction is; a law's end.
-/
import Derived.Test.YtnefipinicfegaaRthreeD
import Derived.ProofKit
import Derived.OpenShut
import Derived.Carry
import Derived.ChangeSlices
namespace Go.Proofs.Ytnefipinicfegaa
open Go.RowKit
set_option linter.unusedVariables false
set_option linter.unusedSimpArgs false

set_option maxRecDepth 100000 in
set_option maxHeartbeats 1000000 in
theorem same_true (v u : Value) (q : Rat) (B0 B1 : Nat) (w : World) (hv : FrQ B0 w v q) (hu : FrQ B1 w u q) :
    Calls Try.prog 16 #[v, u] w fun e w' => e = .returned (.bool true) ∧ Ext w w' := by
  refine (rqsame3_calls v u _ _ _ _ _ _ w hv.raw hu.raw).mono ?_
  rintro e w' ⟨rfl, h⟩
  exact ⟨by simp, h⟩
set_option maxRecDepth 100000 in
set_option maxHeartbeats 1000000 in
theorem zsame_true (v u : Value) (z : Int) (B0 B1 : Nat) (w : World) (hv : FrZ B0 w v z) (hu : FrZ B1 w u z) :
    Calls Try.prog 19 #[v, u] w fun e w' => e = .returned (.bool true) ∧ Ext w w' := by
  refine (zsame2_calls v u _ _ _ _ w hv.raw hu.raw).mono ?_
  rintro e w' ⟨rfl, h⟩
  exact ⟨by simp, h⟩

set_option maxRecDepth 100000 in
set_option maxHeartbeats 1000000 in
theorem szT_small {z : Int} (h : z.natAbs ≤ 9223372036854775808) : szT z ≤ 5 := by
  refine dg_len_le TK_gt ?_
  rw [TK_eq]
  have : (10000 : Nat) ^ 5 = 100000000000000000000 := by decide
  omega
set_option maxRecDepth 100000 in
set_option maxHeartbeats 1000000 in
theorem szD_divInt (x y : Int) (hy : y ≠ 0) : szD (Rat.divInt x y) ≤ max (szT x) (szT y) := by
  have h := mkRat_divInt (decide (x < 0)) (decide (y < 0)) x.natAbs y.natAbs (by omega)
  rw [sgn_self, sgn_self] at h
  rw [← h]
  have := szD_mkRat (sgn (decide (x < 0) != decide (y < 0)) x.natAbs) y.natAbs (by omega)
  rw [szT_sgn] at this
  have e : sz TK x.natAbs = szT x := rfl
  have e2 : sz TK y.natAbs = szT y := rfl
  rw [e, e2] at this
  unfold szD
  omega

set_option maxRecDepth 100000 in
set_option maxHeartbeats 1000000 in
theorem small_calls (x y : Int) (w : World) (h0 : -9223372036854775808 ≤ x) (h1 : x ≤ 9223372036854775807) (h2 : -9223372036854775808 ≤ y) (h3 : y ≤ 9223372036854775807) (hy : y ≠ 0) :
    Calls Try.prog 25 #[.int .i64 x, .int .i64 y] w fun e w' => ∃ v', e = .returned v' ∧ FrQ w.heap.size w' v' (Rat.divInt x y) ∧ Ext w w' := by
  have sx := szT_small (z := x) (by omega)
  have sy := szT_small (z := y) (by omega)
  have sq := szD_divInt x y hy
  go_enter Try.func25, Try.ntmps25
  go_wp2_with fail
  obtain ⟨w1, hw1, e1, b1, s1⟩ := alloc1 w #[.bool false, .slice none 0 0, .slice none 0 0] 28
  rw [← hw1]
  refine (zsmall2_calls x _ h0 h1).mono ?_
  rintro e w2 ⟨v1, rfl, hv1, e2⟩
  go_wp2_with fail
  refine (zsmall2_calls y _ h2 h3).mono ?_
  rintro e w3 ⟨v2, rfl, hv2, e3⟩
  go_wp2_with fail
  refine (rqmake3_calls _ _ x y _ (hv1.cz.ext e3) hv2.cz hy (by omega) (by omega)).mono ?_
  rintro e w4 ⟨v3, rfl, hq, e4⟩
  go_wp2_with fail
  refine (rqto3_calls _ _ _ hq.cq (by omega)).mono ?_
  rintro e w5 ⟨v4, rfl, hq2, e5⟩
  obtain ⟨s', t', rfl, hn, hm⟩ := hq2
  obtain ⟨ad, cap, rfl⟩ := hn.slice
  obtain ⟨ad2, cap2, rfl⟩ := hm.slice
  have Hn := Lib.hid hn
  have Hm := Lib.hid hm
  clear hn hm
  have es2 := e2.size
  have es3 := e3.size
  have es4 := e4.size
  have hb := (((b1.ext e2).ext e3).ext e4).ext e5
  have hc0 := hb.cell 0
  have hc1 := hb.cell 1
  have hc2 := hb.cell 2
  have hf0 := hb.free 0
  have hf1 := hb.free 1
  have hf2 := hb.free 2
  go_wp2
  refine ret_box 4 28 w.heap.size 28 _ _ (by kernel_rfl) rfl (((hb.set 0 _).set 1 _).set 2 _) Try.underlying28 rfl (by kernel_rfl) rfl ?_
  exact ⟨_, rfl, ⟨_, _, rfl, ((Hn.out.chg (Chg.trans (Chg.trans (Chg.setCell _ w.heap.size 0 _) (Chg.setCell _ w.heap.size 1 _)) (Chg.setCell _ w.heap.size 2 _)) (by omega)).mono (by omega)), ((Hm.out.chg (Chg.trans (Chg.trans (Chg.setCell _ w.heap.size 0 _) (Chg.setCell _ w.heap.size 1 _)) (Chg.setCell _ w.heap.size 2 _)) (by omega)).mono (by omega))⟩, ((((e1.trans e2).trans e3).trans e4).trans e5).step (Chg.trans (Chg.trans (Chg.setCell _ w.heap.size 0 _) (Chg.setCell _ w.heap.size 1 _)) (Chg.setCell _ w.heap.size 2 _)) (by omega)⟩

set_option maxRecDepth 100000 in
set_option maxHeartbeats 1000000 in
theorem great_calls (v u : Value) (b c : Bool) (xs ys xs2 ys2 : List Nat) (w : World) (hv : RawQ w v b xs ys) (hu : RawQ w u c xs2 ys2) (h1 : xs.length + ys.length ≤ 9223372036854775807) (h2 : xs2.length + ys2.length ≤ 9223372036854775807) :
    Calls Try.prog 26 #[v, u] w fun e w' => e = .returned (.bool (decide (12 < xs.length + ys.length ∨ 12 < xs2.length + ys2.length))) ∧ Ext w w' := by
  have Hv := Lib.hid hv
  have Hu := Lib.hid hu
  obtain ⟨s, t, rfl, -, -⟩ := hv
  obtain ⟨s2, t2, rfl, -, -⟩ := hu
  obtain ⟨n, hn⟩ : ∃ n, n = xs.length + ys.length := ⟨_, rfl⟩
  obtain ⟨m, hm⟩ : ∃ m, m = xs2.length + ys2.length := ⟨_, rfl⟩
  have Hn := Lib.hid hn
  have Hm := Lib.hid hm
  rw [← hn] at h1 ⊢
  rw [← hm] at h2 ⊢
  clear hn hm
  go_enter Try.func26, Try.ntmps26
  obtain ⟨w1, hw1, e1, b1, b2, s1⟩ := alloc2 w #[.bool b, s, t] #[.bool c, s2, t2] 28 28
  have hc0 := b1.cell 0
  have hc1 := b1.cell 1
  have hc2 := b1.cell 2
  rw [hw1] at hc0 hc1 hc2
  go_wp2_with fail
  rw [← hw1]
  clear hc0 hc1 hc2
  refine (rqwords3_calls _ b xs ys _ (Hv.out.ext e1) (by rw [← Hn.out]; exact h1)).mono ?_
  rw [← Hn.out]
  rintro e w2 ⟨rfl, e2⟩
  have hd0 := (b2.ext e2).cell 0
  have hd1 := (b2.ext e2).cell 1
  have hd2 := (b2.ext e2).cell 2
  by_cases hg : 12 < n
  · have hdec : decide (12 < n ∨ 12 < m) = true := decide_eq_true (.inl hg)
    have Hdec := Lib.hid hdec
    clear hdec
    go_wp2
    go_ret
    exact ⟨by first | rfl | (rw [Hdec.out]; rfl), e1.trans e2⟩
  · have hg' : ¬ (12 : Int) < (n : Int) := by omega
    go_wp2_with fail
    refine (rqwords3_calls _ c xs2 ys2 _ (Hu.out.ext (e1.trans e2)) (by rw [← Hm.out]; exact h2)).mono ?_
    rw [← Hm.out]
    rintro e w3 ⟨rfl, e3⟩
    have hdec : decide (12 < n ∨ 12 < m) = decide (12 < m) := by simp [hg]
    by_cases hg2 : 12 < m
    · have Hdec := Lib.hid (hdec.trans (decide_eq_true hg2))
      clear hdec
      go_wp2
      go_ret
      exact ⟨by rw [Hdec.out]; show Ending.returned (.bool (decide (12 < (n : Int)) || decide (12 < (m : Int)))) = _; rw [decide_eq_false (show ¬ (12 : Int) < (n : Int) by omega), decide_eq_true (show (12 : Int) < (m : Int) by omega)]; rfl, (e1.trans e2).trans e3⟩
    · have hg2' : ¬ (12 : Int) < (m : Int) := by omega
      have Hdec := Lib.hid (hdec.trans (decide_eq_false hg2))
      clear hdec
      go_wp2
      go_ret
      exact ⟨by rw [Hdec.out]; show Ending.returned (.bool (decide (12 < (n : Int)) || decide (12 < (m : Int)))) = _; rw [decide_eq_false (show ¬ (12 : Int) < (n : Int) by omega), decide_eq_false (show ¬ (12 : Int) < (m : Int) by omega)]; rfl, (e1.trans e2).trans e3⟩

section
open Go.ChangeShapes Go.WideShapes Go.ChangeAt
variable {H : Type} {enc : TypeId × Value → H} {P : Program}
set_option maxRecDepth 100000 in
set_option maxHeartbeats 1000000 in
theorem post_of_ext {f : Func} {s : ChangeSpec} {apart fresh handsOn again : Bool} {W W' : World} {args : Array Value} {v : Value} {ds gs : List (DataW H)} {before pa pv : List MemPlace}
    (hW : DataW.Whole enc P f.params.toList s.vars apart W args.toList ds gs before)
    (hres : ∀ (b : Nat) (sp : Nat → Bool) (hd : Bool), DataW.TrodAll enc P W' b sp hd f.resultTypes.toList (v.resultList f.resultTypes.size) (s.fn H (ds ++ gs)).results [])
    (hargs : ∀ sp : Nat → Bool, (∀ p ∈ before, sp p.block = true) → DataW.TrodAll enc P W' 0 sp true f.params.toList args.toList (s.fn H (ds ++ gs)).args pa)
    (hvars : ∀ sp : Nat → Bool, (∀ p ∈ before, sp p.block = true) → DataW.TrodVars enc P W' sp s.vars (s.fn H (ds ++ gs)).vars pv)
    (hps : before = pa ++ pv) (hE : Ext W W')
    (hok : ∀ (j : Nat) (t : TypeId) (r : Value), f.resultTypes[j]? = some t → (v.resultList f.resultTypes.size)[j]? = some r → Value.okWide P W' .any 0 t r) :
    s.post enc P f apart fresh handsOn again W args v W' := by
  have hold : ∀ p ∈ before, (fun b => decide (b < W.heap.size)) p.block = true := fun p hp => by simpa using hW.lt p hp
  refine ⟨ds, gs, before, [], pa, pv, hW, hres _ _ _, hargs _ hold, hvars _ hold, World.keptBut_mono (fun p hp => ⟨hp, ?_⟩) (hE.below.frame _), fun _ => ?_⟩
  · rw [hps, List.mem_append] at hp
    exact Or.inr hp
  · have hlt := hW.lt
    obtain ⟨_, _, _, _, _, hz, hn⟩ := hW
    refine ⟨hok, _, _, ([] ++ pa) ++ pv, ⟨[] ++ pa, pv, trodAll_append (hargs _ (fun _ _ => rfl)) (hres _ _ _), hvars _ (fun _ _ => rfl), rfl, ?_, ?_⟩, ?_⟩
    · intro b off hp
      have h0 := hz b off (by rw [hps]; simpa using hp)
      rw [Ext.frozen hE b off (hlt (.cell b off) (by rw [hps]; simpa using hp))]
      exact h0
    · intro ha
      have := hn ha
      rw [hps] at this
      simpa using this
    · intro p hp _
      rw [hps]
      simpa using hp
end
end Go.Proofs.Ytnefipinicfegaa

/-
  The document's examples come out as it says.
-/
namespace Go.Proofs.Ytnefipinicfegaa
open Go.RowKit
set_option linter.unusedVariables false
set_option linter.unusedSimpArgs false

set_option maxRecDepth 100000 in
set_option maxHeartbeats 1000000 in
theorem ex1 : Rat.divInt 1 6 + Rat.divInt 1 3 = Rat.divInt 1 2 := by
  rw [Rat.divInt_add_divInt _ _ (by decide) (by decide)]
  decide
set_option maxRecDepth 100000 in
set_option maxHeartbeats 1000000 in
theorem ex2 : Rat.divInt 6 (-4) = Rat.divInt (-3) 2 := by decide
set_option maxRecDepth 100000 in
set_option maxHeartbeats 1000000 in
theorem ex3 : (Rat.divInt (-7) 2).floor = -4 := by decide
set_option maxRecDepth 100000 in
set_option maxHeartbeats 1000000 in
theorem ex4 : (Rat.divInt (-7) 2).ceil = -3 := by decide
set_option maxRecDepth 100000 in
set_option maxHeartbeats 1000000 in
theorem ex5 : Rat.divInt (-7) 2 - ((Rat.divInt (-7) 2).floor : Rat) = Rat.divInt 1 2 := by
  have e : ((Rat.divInt (-7) 2).floor : Rat) = Rat.divInt (-4) 1 := by rw [ex3]; decide
  rw [e, Rat.divInt_sub_divInt _ _ (by decide) (by decide)]
  decide
set_option maxRecDepth 100000 in
set_option maxHeartbeats 1000000 in
theorem ex6 : (0 : Rat) = Rat.divInt 0 1 := by decide
set_option maxRecDepth 100000 in
set_option maxHeartbeats 1000000 in
theorem exs : szQ (Rat.divInt 1 6) ≤ 1 ∧ szQ (Rat.divInt 1 3) ≤ 1 ∧ szQ (Rat.divInt (-7) 2) ≤ 1 := by
  refine ⟨?_, ?_, ?_⟩
  · exact Nat.le_trans (szQ_divInt 1 6 (by omega)) (by decide)
  · exact Nat.le_trans (szQ_divInt 1 3 (by omega)) (by decide)
  · exact Nat.le_trans (szQ_divInt (-7) 2 (by omega)) (by decide)
set_option maxRecDepth 100000 in
set_option maxHeartbeats 1000000 in
theorem zeroQ.isR (w : World) : IsR w (.agg #[.bool false, .slice none 0 0, .slice none 0 0]) 0 1 :=
  ⟨0, 1, ⟨false, .slice none 0 0, .slice none 0 0, 0, 0, rfl, ⟨[], ⟨none, 0, rfl, Nat.le_refl _, by omega, Rd.nil _ _⟩, by simp, Dig.nil, rfl⟩, rfl, ⟨[], ⟨none, 0, rfl, Nat.le_refl _, by omega, Rd.nil _ _⟩, by simp, Dig.nil, rfl⟩, rfl⟩, by simp, by decide, by decide⟩

set_option maxRecDepth 100000 in
set_option maxHeartbeats 1000000 in
theorem FrQ.opn {B0 : Nat} {w : World} {v : Value} {q : Rat} (h : FrQ B0 w v q) : ∃ b ad l cap ad2 l2 cap2, v = .agg #[.bool b, .slice ad l cap, .slice ad2 l2 cap2] ∧ FrQ B0 w (.agg #[.bool b, .slice ad l cap, .slice ad2 l2 cap2]) q := by
  have h' := h
  obtain ⟨s, t, rfl, hn, hm⟩ := h
  obtain ⟨ad, cap, rfl⟩ := hn.slice
  obtain ⟨ad2, cap2, rfl⟩ := hm.slice
  exact ⟨_, _, _, _, _, _, _, rfl, h'⟩

set_option maxRecDepth 100000 in
set_option maxHeartbeats 4000000 in
theorem speaks_calls (w : World) : Calls Try.prog 11 #[] w fun e w' => e = .returned (.bool true) ∧ Ext w w' := by
  have lim : (1 : Nat) ≤ LIM .u64 := by (first | rw [LIM_eq] | rw [LIM_eqT]); omega
  go_enter Try.func11, Try.ntmps11
  go_wp2_with fail
  refine (rof_calls 1 6 _ (by omega) (by omega) (by omega) (by omega) (by omega)).mono ?_
  rintro e w1 ⟨v1, rfl, q1, e1⟩
  obtain ⟨b1, ad1, l1, cap1, bd1, m1, dap1, rfl, q1⟩ := q1.opn
  obtain ⟨w2, hw2, f2, c1, s2⟩ := alloc1 w1 #[.bool b1, .slice ad1 l1 cap1, .slice bd1 m1 dap1] 28
  go_wp2_with fail
  rw [← hw2]
  refine (rof_calls 1 3 _ (by omega) (by omega) (by omega) (by omega) (by omega)).mono ?_
  rintro e w3 ⟨v2, rfl, q2, e2⟩
  obtain ⟨b2, ad2, l2, cap2, bd2, m2, dap2, rfl, q2⟩ := q2.opn
  obtain ⟨w4, hw4, f4, c2, s4⟩ := alloc1 w3 #[.bool b2, .slice ad2 l2 cap2, .slice bd2 m2 dap2] 28
  go_wp2_with fail
  rw [← hw4]
  refine (rof_calls 6 (-4) _ (by omega) (by omega) (by omega) (by omega) (by omega)).mono ?_
  rintro e w5 ⟨v3, rfl, q3, e3⟩
  obtain ⟨b3, ad3, l3, cap3, bd3, m3, dap3, rfl, q3⟩ := q3.opn
  obtain ⟨w6, hw6, f6, c3, s6⟩ := alloc1 w5 #[.bool b3, .slice ad3 l3 cap3, .slice bd3 m3 dap3] 28
  go_wp2_with fail
  rw [← hw6]
  refine (rof_calls (-7) 2 _ (by omega) (by omega) (by omega) (by omega) (by omega)).mono ?_
  rintro e w7 ⟨v4, rfl, q4, e4⟩
  obtain ⟨b4, ad4, l4, cap4, bd4, m4, dap4, rfl, q4⟩ := q4.opn
  obtain ⟨w8, hw8, f8, c4, s8⟩ := alloc1 w7 #[.bool b4, .slice ad4 l4 cap4, .slice bd4 m4 dap4] 28
  go_wp2_with fail
  rw [← hw8]
  have E28 := (e2.trans f4).trans ((e3.trans f6).trans (e4.trans f8))
  have E48 := (e3.trans f6).trans (e4.trans f8)
  have E68 := e4.trans f8
  have E := (e1.trans f2).trans E28
  have C1 := c1.ext E28
  have C2 := c2.ext E48
  have C3 := c3.ext E68
  have R1 := (q1.isR exs.1 lim).ext (f2.trans E28)
  have R2 := (q2.isR exs.2.1 lim).ext (f4.trans E48)
  have R4 := (q4.isR exs.2.2 lim).ext f8
  have Q3 := q3.ext (f6.trans E68)
  rw [ex2] at Q3
  refine wp_region_puts [] [PP.val (.int .i64 0), PP.val (.bool true), PP.val (.bool true), PP.val (.int .i64 0), PP.val (.bool true), PP.val (.bool true), PP.val (.bool true), PP.val (.int .i64 0), PP.val (.bool true), PP.val (.bool true), PP.val (.bool true), PP.val (.agg #[.bool b1, .slice ad1 l1 cap1, .slice bd1 m1 dap1]), PP.val (.agg #[.bool b2, .slice ad2 l2 cap2, .slice bd2 m2 dap2]), PP.frQ (Rat.divInt 1 2), PP.frQ (Rat.divInt 1 2), PP.val (.bool true), PP.val (.bool true), PP.val (.bool true), PP.val (.agg #[.bool b3, .slice ad3 l3 cap3, .slice bd3 m3 dap3]), PP.frQ (Rat.divInt (-3) 2), PP.val (.bool true), PP.val (.bool true), PP.val (.bool true), PP.val (.agg #[.bool b4, .slice ad4 l4 cap4, .slice bd4 m4 dap4]), PP.frZ (-4), PP.frZd (-4), PP.frZ (-4), PP.val (.bool true), PP.val (.bool true), PP.val (.bool true), PP.val (.agg #[.bool b4, .slice ad4 l4 cap4, .slice bd4 m4 dap4]), PP.frZ (-3), PP.frZd (-3), PP.frZ (-3), PP.val (.bool true), PP.val (.bool true), PP.val (.bool true), PP.val (.agg #[.bool b4, .slice ad4 l4 cap4, .slice bd4 m4 dap4]), PP.frQ (Rat.divInt 1 2), PP.frQ (Rat.divInt 1 2), PP.val (.bool true), PP.val (.bool true), PP.val (.bool true), PP.val (.agg #[.bool false, .slice none 0 0, .slice none 0 0]), PP.frQ (Rat.divInt 0 1), PP.frQ (Rat.divInt 0 1), PP.val (.bool true), PP.val (.bool true), PP.val (.bool true)] [] [0, 1, 2, 3, 4, 5, 6, 7, 8, 9, 10, 11, 12, 13, 14, 15, 16, 17, 18, 19, 20, 21, 22, 23, 24, 25, 26, 27, 28, 29, 30, 31, 32, 33, 34, 35, 36, 37, 38, 39, 40, 41, 42, 43, 44, 45, 46, 47, 48]
    (by kernel_rfl) (by kernel_rfl) (fun f => (by simp only [fillR, fillL, List.setIfInBounds_toArray, List.set_cons_succ, List.set_cons_zero, Nat.reduceAdd]; rfl)) ?_ ?_ ?_ ?_ ?_
  · intro x hx; cases hx
  · intro x hx; cases hx
  · intro x hx; cases hx
  · refine ⟨?o0, ?o1, ?o2, ?o3, ?o4, ?o5, ?o6, ?o7, ?o8, ?o9, ?o10, ?o11, ?o12, ?o13, ?o14, ?o15, ?o16, ?o17, ?o18, ?o19, ?o20, ?o21, ?o22, ?o23, ?o24, ?o25, ?o26, ?o27, ?o28, ?o29, ?o30, ?o31, ?o32, ?o33, ?o34, ?o35, ?o36, ?o37, ?o38, ?o39, ?o40, ?o41, ?o42, ?o43, ?o44, ?o45, ?o46, ?o47, ?o48, trivial⟩
    case o0 =>
      intro f w2 hG hp hl
      have hE : Ext w8 w2 := hG
      have hS := hE.size
      simp only [OpGoal]
      go_simp
      exact ⟨_, rfl, Ext.refl _, rfl⟩
    case o1 =>
      intro f w2 hG hp hl
      have hE : Ext w8 w2 := hG
      have hS := hE.size
      have q25 : f 0 = .int .i64 0 := tellV hp 0 0 rfl rfl (fun h => by cases h)
      simp only [OpGoal]
      go_simp
      exact ⟨_, rfl, Ext.refl _, rfl⟩
    case o2 =>
      intro f w2 hG hp hl
      have hE : Ext w8 w2 := hG
      have hS := hE.size
      have q26 : f 1 = .bool true := tellV hp 0 1 rfl rfl (fun h => by cases h)
      simp only [OpGoal]
      go_simp
      exact ⟨_, rfl, Ext.refl _, rfl⟩
    case o3 =>
      intro f w2 hG hp hl
      have hE : Ext w8 w2 := hG
      have hS := hE.size
      have qg : f 2 = .bool true := tellV hp 0 2 rfl rfl (fun h => by cases h)
      change OpGoal _ _ _ f w2 Ext _
      refine og_guard (j := 2) (want := true) rfl qg ?_
      simp only [OpGoal]
      go_simp
      exact ⟨_, rfl, Ext.refl _, rfl⟩
    case o4 =>
      intro f w2 hG hp hl
      have hE : Ext w8 w2 := hG
      have hS := hE.size
      have q28 : f 3 = .int .i64 0 := tellV hp 0 3 rfl rfl (fun h => by cases h)
      have qg : f 2 = .bool true := tellV hp 1 2 rfl rfl (fun h => by cases h)
      change OpGoal _ _ _ f w2 Ext _
      refine og_guard (j := 2) (want := true) rfl qg ?_
      simp only [OpGoal]
      go_simp
      exact ⟨_, rfl, Ext.refl _, rfl⟩
    case o5 =>
      intro f w2 hG hp hl
      have hE : Ext w8 w2 := hG
      have hS := hE.size
      have q27 : f 2 = .bool true := tellV hp 0 2 rfl rfl (fun h => by cases h)
      have q29 : f 4 = .bool true := tellV hp 1 4 rfl rfl (fun h => by cases h)
      simp only [OpGoal]
      go_simp
      exact ⟨_, rfl, Ext.refl _, rfl⟩
    case o6 =>
      intro f w2 hG hp hl
      have hE : Ext w8 w2 := hG
      have hS := hE.size
      have q30 : f 5 = .bool true := tellV hp 0 5 rfl rfl (fun h => by cases h)
      simp only [OpGoal]
      go_simp
      exact ⟨_, rfl, Ext.refl _, rfl⟩
    case o7 =>
      intro f w2 hG hp hl
      have hE : Ext w8 w2 := hG
      have hS := hE.size
      have qg : f 6 = .bool true := tellV hp 0 6 rfl rfl (fun h => by cases h)
      change OpGoal _ _ _ f w2 Ext _
      refine og_guard (j := 6) (want := true) rfl qg ?_
      simp only [OpGoal]
      go_simp
      exact ⟨_, rfl, Ext.refl _, rfl⟩
    case o8 =>
      intro f w2 hG hp hl
      have hE : Ext w8 w2 := hG
      have hS := hE.size
      have q32 : f 7 = .int .i64 0 := tellV hp 0 7 rfl rfl (fun h => by cases h)
      have qg : f 6 = .bool true := tellV hp 1 6 rfl rfl (fun h => by cases h)
      change OpGoal _ _ _ f w2 Ext _
      refine og_guard (j := 6) (want := true) rfl qg ?_
      simp only [OpGoal]
      go_simp
      exact ⟨_, rfl, Ext.refl _, rfl⟩
    case o9 =>
      intro f w2 hG hp hl
      have hE : Ext w8 w2 := hG
      have hS := hE.size
      have q31 : f 6 = .bool true := tellV hp 0 6 rfl rfl (fun h => by cases h)
      have q33 : f 8 = .bool true := tellV hp 1 8 rfl rfl (fun h => by cases h)
      simp only [OpGoal]
      go_simp
      exact ⟨_, rfl, Ext.refl _, rfl⟩
    case o10 =>
      intro f w2 hG hp hl
      have hE : Ext w8 w2 := hG
      have hS := hE.size
      have q34 : f 9 = .bool true := tellV hp 0 9 rfl rfl (fun h => by cases h)
      simp only [OpGoal]
      go_simp
      exact ⟨_, rfl, Ext.refl _, rfl⟩
    case o11 =>
      intro f w2 hG hp hl
      have hE : Ext w8 w2 := hG
      have hS := hE.size
      have qg : f 10 = .bool true := tellV hp 0 10 rfl rfl (fun h => by cases h)
      change OpGoal _ _ _ f w2 Ext _
      refine og_guard (j := 10) (want := true) rfl qg ?_
      change OpGoal _ _ _ f w2 Ext _
      exact og_load (P := Try.prog) _ _ w1.heap.size _ _ _ rfl rfl rfl (C1.ext hE) Try.underlying28 rfl (by kernel_rfl) rfl
    case o12 =>
      intro f w2 hG hp hl
      have hE : Ext w8 w2 := hG
      have hS := hE.size
      have qg : f 10 = .bool true := tellV hp 0 10 rfl rfl (fun h => by cases h)
      change OpGoal _ _ _ f w2 Ext _
      refine og_guard (j := 10) (want := true) rfl qg ?_
      change OpGoal _ _ _ f w2 Ext _
      exact og_load (P := Try.prog) _ _ w3.heap.size _ _ _ rfl rfl rfl (C2.ext hE) Try.underlying28 rfl (by kernel_rfl) rfl
    case o13 =>
      intro f w2 hG hp hl
      have hE : Ext w8 w2 := hG
      have hS := hE.size
      have q36 : f 11 = .agg #[.bool b1, .slice ad1 l1 cap1, .slice bd1 m1 dap1] := tellV hp 0 11 rfl rfl (fun h => by cases h)
      have q37 : f 12 = .agg #[.bool b2, .slice ad2 l2 cap2, .slice bd2 m2 dap2] := tellV hp 1 12 rfl rfl (fun h => by cases h)
      have qg : f 10 = .bool true := tellV hp 2 10 rfl rfl (fun h => by cases h)
      change OpGoal _ _ _ f w2 Ext _
      refine og_guard (j := 10) (want := true) rfl qg ?_
      change OpGoal _ _ _ f w2 Ext _
      refine og_call (P := Try.prog) _ _ _ #[f 11, f 12] Try.func43 (by kernel_rfl) (by kernel_rfl) rfl rfl (by kernel_rfl) ?_
      rw [q36, q37]
      refine (radd_calls _ _ (Rat.divInt 1 6) (Rat.divInt 1 3) 1 1 _ (R1.ext hE) (R2.ext hE) (by omega)).mono ?_
      rintro e w' ⟨v', rfl, h1, _, h2⟩
      rw [ex1] at h1
      exact ⟨v', rfl, h2, h1.mono hS⟩
    case o14 =>
      intro f w2 hG hp hl
      have hE : Ext w8 w2 := hG
      have hS := hE.size
      have qg : f 10 = .bool true := tellV hp 1 10 rfl rfl (fun h => by cases h)
      change OpGoal _ _ _ f w2 Ext _
      refine og_guard (j := 10) (want := true) rfl qg ?_
      change OpGoal _ _ _ f w2 Ext _
      refine og_call (P := Try.prog) _ _ _ #[.int .i64 1, .int .i64 2] Try.func25 (by kernel_rfl) (by kernel_rfl) rfl rfl (by kernel_rfl) ?_
      refine (small_calls 1 2 _ (by omega) (by omega) (by omega) (by omega) (by omega)).mono ?_
      rintro e w' ⟨v', rfl, h1, h2⟩
      exact ⟨v', rfl, h2, h1.mono hS⟩
    case o15 =>
      intro f w2 hG hp hl
      have hE : Ext w8 w2 := hG
      have hS := hE.size
      have q38 := tellV hp 0 13 rfl rfl (fun _ => hE)
      have q39 := tellV hp 1 14 rfl rfl (fun _ => hE)
      have qg : f 10 = .bool true := tellV hp 3 10 rfl rfl (fun h => by cases h)
      change OpGoal _ _ _ f w2 Ext _
      refine og_guard (j := 10) (want := true) rfl qg ?_
      change OpGoal _ _ _ f w2 Ext _
      refine og_call (P := Try.prog) _ _ _ #[f 13, f 14] Try.func16 (by kernel_rfl) (by kernel_rfl) rfl rfl (by kernel_rfl) ?_
      refine (same_true _ _ _ _ _ _ q38 q39).mono ?_
      rintro e w' ⟨rfl, h2⟩
      exact ⟨_, rfl, h2, rfl⟩
    case o16 =>
      intro f w2 hG hp hl
      have hE : Ext w8 w2 := hG
      have hS := hE.size
      have q35 : f 10 = .bool true := tellV hp 0 10 rfl rfl (fun h => by cases h)
      have q40 : f 15 = .bool true := tellV hp 1 15 rfl rfl (fun h => by cases h)
      simp only [OpGoal]
      go_simp
      exact ⟨_, rfl, Ext.refl _, rfl⟩
    case o17 =>
      intro f w2 hG hp hl
      have hE : Ext w8 w2 := hG
      have hS := hE.size
      have q41 : f 16 = .bool true := tellV hp 0 16 rfl rfl (fun h => by cases h)
      simp only [OpGoal]
      go_simp
      exact ⟨_, rfl, Ext.refl _, rfl⟩
    case o18 =>
      intro f w2 hG hp hl
      have hE : Ext w8 w2 := hG
      have hS := hE.size
      have qg : f 17 = .bool true := tellV hp 0 17 rfl rfl (fun h => by cases h)
      change OpGoal _ _ _ f w2 Ext _
      refine og_guard (j := 17) (want := true) rfl qg ?_
      change OpGoal _ _ _ f w2 Ext _
      exact og_load (P := Try.prog) _ _ w5.heap.size _ _ _ rfl rfl rfl (C3.ext hE) Try.underlying28 rfl (by kernel_rfl) rfl
    case o19 =>
      intro f w2 hG hp hl
      have hE : Ext w8 w2 := hG
      have hS := hE.size
      have qg : f 17 = .bool true := tellV hp 0 17 rfl rfl (fun h => by cases h)
      change OpGoal _ _ _ f w2 Ext _
      refine og_guard (j := 17) (want := true) rfl qg ?_
      change OpGoal _ _ _ f w2 Ext _
      refine og_call (P := Try.prog) _ _ _ #[.int .i64 (-3), .int .i64 2] Try.func25 (by kernel_rfl) (by kernel_rfl) rfl rfl (by kernel_rfl) ?_
      refine (small_calls (-3) 2 _ (by omega) (by omega) (by omega) (by omega) (by omega)).mono ?_
      rintro e w' ⟨v', rfl, h1, h2⟩
      exact ⟨v', rfl, h2, h1.mono hS⟩
    case o20 =>
      intro f w2 hG hp hl
      have hE : Ext w8 w2 := hG
      have hS := hE.size
      have q43 : f 18 = .agg #[.bool b3, .slice ad3 l3 cap3, .slice bd3 m3 dap3] := tellV hp 0 18 rfl rfl (fun h => by cases h)
      have q44 := tellV hp 1 19 rfl rfl (fun _ => hE)
      have qg : f 17 = .bool true := tellV hp 3 17 rfl rfl (fun h => by cases h)
      change OpGoal _ _ _ f w2 Ext _
      refine og_guard (j := 17) (want := true) rfl qg ?_
      change OpGoal _ _ _ f w2 Ext _
      refine og_call (P := Try.prog) _ _ _ #[f 18, f 19] Try.func16 (by kernel_rfl) (by kernel_rfl) rfl rfl (by kernel_rfl) ?_
      rw [q43]
      refine (same_true _ _ _ _ _ _ (Q3.ext hE) q44).mono ?_
      rintro e w' ⟨rfl, h2⟩
      exact ⟨_, rfl, h2, rfl⟩
    case o21 =>
      intro f w2 hG hp hl
      have hE : Ext w8 w2 := hG
      have hS := hE.size
      have q42 : f 17 = .bool true := tellV hp 0 17 rfl rfl (fun h => by cases h)
      have q45 : f 20 = .bool true := tellV hp 1 20 rfl rfl (fun h => by cases h)
      simp only [OpGoal]
      go_simp
      exact ⟨_, rfl, Ext.refl _, rfl⟩
    case o22 =>
      intro f w2 hG hp hl
      have hE : Ext w8 w2 := hG
      have hS := hE.size
      have q46 : f 21 = .bool true := tellV hp 0 21 rfl rfl (fun h => by cases h)
      simp only [OpGoal]
      go_simp
      exact ⟨_, rfl, Ext.refl _, rfl⟩
    case o23 =>
      intro f w2 hG hp hl
      have hE : Ext w8 w2 := hG
      have hS := hE.size
      have qg : f 22 = .bool true := tellV hp 0 22 rfl rfl (fun h => by cases h)
      change OpGoal _ _ _ f w2 Ext _
      refine og_guard (j := 22) (want := true) rfl qg ?_
      change OpGoal _ _ _ f w2 Ext _
      exact og_load (P := Try.prog) _ _ w7.heap.size _ _ _ rfl rfl rfl (c4.ext hE) Try.underlying28 rfl (by kernel_rfl) rfl
    case o24 =>
      intro f w2 hG hp hl
      have hE : Ext w8 w2 := hG
      have hS := hE.size
      have q48 : f 23 = .agg #[.bool b4, .slice ad4 l4 cap4, .slice bd4 m4 dap4] := tellV hp 0 23 rfl rfl (fun h => by cases h)
      have qg : f 22 = .bool true := tellV hp 1 22 rfl rfl (fun h => by cases h)
      change OpGoal _ _ _ f w2 Ext _
      refine og_guard (j := 22) (want := true) rfl qg ?_
      change OpGoal _ _ _ f w2 Ext _
      refine og_call (P := Try.prog) _ _ _ #[f 23] Try.func29 (by kernel_rfl) (by kernel_rfl) rfl rfl (by kernel_rfl) ?_
      rw [q48]
      refine (rfloor_calls _ (Rat.divInt (-7) 2) 1 _ (R4.ext hE) (by omega)).mono ?_
      rintro e w' ⟨v', rfl, h1, _, h2⟩
      rw [ex3] at h1
      exact ⟨v', rfl, h2, h1.mono hS⟩
    case o25 =>
      intro f w2 hG hp hl
      have hE : Ext w8 w2 := hG
      have hS := hE.size
      have qg : f 22 = .bool true := tellV hp 1 22 rfl rfl (fun h => by cases h)
      change OpGoal _ _ _ f w2 Ext _
      refine og_guard (j := 22) (want := true) rfl qg ?_
      change OpGoal _ _ _ f w2 Ext _
      refine og_call (P := Try.prog) _ _ _ #[.int .i64 (-4)] Try.func53 (by kernel_rfl) (by kernel_rfl) rfl rfl (by kernel_rfl) ?_
      refine (zsmall2_calls (-4) _ (by omega) (by omega)).mono ?_
      rintro e w' ⟨v', rfl, h1, h2⟩
      exact ⟨v', rfl, h2, h1.mono hS⟩
    case o26 =>
      intro f w2 hG hp hl
      have hE : Ext w8 w2 := hG
      have hS := hE.size
      have q50 := tellV hp 0 25 rfl rfl (fun _ => hE)
      have qg : f 22 = .bool true := tellV hp 2 22 rfl rfl (fun h => by cases h)
      change OpGoal _ _ _ f w2 Ext _
      refine og_guard (j := 22) (want := true) rfl qg ?_
      change OpGoal _ _ _ f w2 Ext _
      refine og_call (P := Try.prog) _ _ _ #[f 25] Try.func32 (by kernel_rfl) (by kernel_rfl) rfl rfl (by kernel_rfl) ?_
      refine (zto2_calls _ (-4) _ q50.cz (Nat.le_trans (szT_small (by omega)) (by omega))).mono ?_
      rintro e w' ⟨v', rfl, h1, h2⟩
      exact ⟨v', rfl, h2, h1.mono hS⟩
    case o27 =>
      intro f w2 hG hp hl
      have hE : Ext w8 w2 := hG
      have hS := hE.size
      have q49 := tellV hp 0 24 rfl rfl (fun _ => hE)
      have q51 := tellV hp 1 26 rfl rfl (fun _ => hE)
      have qg : f 22 = .bool true := tellV hp 3 22 rfl rfl (fun h => by cases h)
      change OpGoal _ _ _ f w2 Ext _
      refine og_guard (j := 22) (want := true) rfl qg ?_
      change OpGoal _ _ _ f w2 Ext _
      refine og_call (P := Try.prog) _ _ _ #[f 24, f 26] Try.func19 (by kernel_rfl) (by kernel_rfl) rfl rfl (by kernel_rfl) ?_
      refine (zsame_true _ _ _ _ _ _ q49 q51).mono ?_
      rintro e w' ⟨rfl, h2⟩
      exact ⟨_, rfl, h2, rfl⟩
    case o28 =>
      intro f w2 hG hp hl
      have hE : Ext w8 w2 := hG
      have hS := hE.size
      have q47 : f 22 = .bool true := tellV hp 0 22 rfl rfl (fun h => by cases h)
      have q52 : f 27 = .bool true := tellV hp 1 27 rfl rfl (fun h => by cases h)
      simp only [OpGoal]
      go_simp
      exact ⟨_, rfl, Ext.refl _, rfl⟩
    case o29 =>
      intro f w2 hG hp hl
      have hE : Ext w8 w2 := hG
      have hS := hE.size
      have q53 : f 28 = .bool true := tellV hp 0 28 rfl rfl (fun h => by cases h)
      simp only [OpGoal]
      go_simp
      exact ⟨_, rfl, Ext.refl _, rfl⟩
    case o30 =>
      intro f w2 hG hp hl
      have hE : Ext w8 w2 := hG
      have hS := hE.size
      have qg : f 29 = .bool true := tellV hp 0 29 rfl rfl (fun h => by cases h)
      change OpGoal _ _ _ f w2 Ext _
      refine og_guard (j := 29) (want := true) rfl qg ?_
      change OpGoal _ _ _ f w2 Ext _
      exact og_load (P := Try.prog) _ _ w7.heap.size _ _ _ rfl rfl rfl (c4.ext hE) Try.underlying28 rfl (by kernel_rfl) rfl
    case o31 =>
      intro f w2 hG hp hl
      have hE : Ext w8 w2 := hG
      have hS := hE.size
      have q55 : f 30 = .agg #[.bool b4, .slice ad4 l4 cap4, .slice bd4 m4 dap4] := tellV hp 0 30 rfl rfl (fun h => by cases h)
      have qg : f 29 = .bool true := tellV hp 1 29 rfl rfl (fun h => by cases h)
      change OpGoal _ _ _ f w2 Ext _
      refine og_guard (j := 29) (want := true) rfl qg ?_
      change OpGoal _ _ _ f w2 Ext _
      refine og_call (P := Try.prog) _ _ _ #[f 30] Try.func30 (by kernel_rfl) (by kernel_rfl) rfl rfl (by kernel_rfl) ?_
      rw [q55]
      refine (rceil_calls _ (Rat.divInt (-7) 2) 1 _ (R4.ext hE) (by omega)).mono ?_
      rintro e w' ⟨v', rfl, h1, _, h2⟩
      rw [ex4] at h1
      exact ⟨v', rfl, h2, h1.mono hS⟩
    case o32 =>
      intro f w2 hG hp hl
      have hE : Ext w8 w2 := hG
      have hS := hE.size
      have qg : f 29 = .bool true := tellV hp 1 29 rfl rfl (fun h => by cases h)
      change OpGoal _ _ _ f w2 Ext _
      refine og_guard (j := 29) (want := true) rfl qg ?_
      change OpGoal _ _ _ f w2 Ext _
      refine og_call (P := Try.prog) _ _ _ #[.int .i64 (-3)] Try.func53 (by kernel_rfl) (by kernel_rfl) rfl rfl (by kernel_rfl) ?_
      refine (zsmall2_calls (-3) _ (by omega) (by omega)).mono ?_
      rintro e w' ⟨v', rfl, h1, h2⟩
      exact ⟨v', rfl, h2, h1.mono hS⟩
    case o33 =>
      intro f w2 hG hp hl
      have hE : Ext w8 w2 := hG
      have hS := hE.size
      have q57 := tellV hp 0 32 rfl rfl (fun _ => hE)
      have qg : f 29 = .bool true := tellV hp 2 29 rfl rfl (fun h => by cases h)
      change OpGoal _ _ _ f w2 Ext _
      refine og_guard (j := 29) (want := true) rfl qg ?_
      change OpGoal _ _ _ f w2 Ext _
      refine og_call (P := Try.prog) _ _ _ #[f 32] Try.func32 (by kernel_rfl) (by kernel_rfl) rfl rfl (by kernel_rfl) ?_
      refine (zto2_calls _ (-3) _ q57.cz (Nat.le_trans (szT_small (by omega)) (by omega))).mono ?_
      rintro e w' ⟨v', rfl, h1, h2⟩
      exact ⟨v', rfl, h2, h1.mono hS⟩
    case o34 =>
      intro f w2 hG hp hl
      have hE : Ext w8 w2 := hG
      have hS := hE.size
      have q56 := tellV hp 0 31 rfl rfl (fun _ => hE)
      have q58 := tellV hp 1 33 rfl rfl (fun _ => hE)
      have qg : f 29 = .bool true := tellV hp 3 29 rfl rfl (fun h => by cases h)
      change OpGoal _ _ _ f w2 Ext _
      refine og_guard (j := 29) (want := true) rfl qg ?_
      change OpGoal _ _ _ f w2 Ext _
      refine og_call (P := Try.prog) _ _ _ #[f 31, f 33] Try.func19 (by kernel_rfl) (by kernel_rfl) rfl rfl (by kernel_rfl) ?_
      refine (zsame_true _ _ _ _ _ _ q56 q58).mono ?_
      rintro e w' ⟨rfl, h2⟩
      exact ⟨_, rfl, h2, rfl⟩
    case o35 =>
      intro f w2 hG hp hl
      have hE : Ext w8 w2 := hG
      have hS := hE.size
      have q54 : f 29 = .bool true := tellV hp 0 29 rfl rfl (fun h => by cases h)
      have q59 : f 34 = .bool true := tellV hp 1 34 rfl rfl (fun h => by cases h)
      simp only [OpGoal]
      go_simp
      exact ⟨_, rfl, Ext.refl _, rfl⟩
    case o36 =>
      intro f w2 hG hp hl
      have hE : Ext w8 w2 := hG
      have hS := hE.size
      have q60 : f 35 = .bool true := tellV hp 0 35 rfl rfl (fun h => by cases h)
      simp only [OpGoal]
      go_simp
      exact ⟨_, rfl, Ext.refl _, rfl⟩
    case o37 =>
      intro f w2 hG hp hl
      have hE : Ext w8 w2 := hG
      have hS := hE.size
      have qg : f 36 = .bool true := tellV hp 0 36 rfl rfl (fun h => by cases h)
      change OpGoal _ _ _ f w2 Ext _
      refine og_guard (j := 36) (want := true) rfl qg ?_
      change OpGoal _ _ _ f w2 Ext _
      exact og_load (P := Try.prog) _ _ w7.heap.size _ _ _ rfl rfl rfl (c4.ext hE) Try.underlying28 rfl (by kernel_rfl) rfl
    case o38 =>
      intro f w2 hG hp hl
      have hE : Ext w8 w2 := hG
      have hS := hE.size
      have q62 : f 37 = .agg #[.bool b4, .slice ad4 l4 cap4, .slice bd4 m4 dap4] := tellV hp 0 37 rfl rfl (fun h => by cases h)
      have qg : f 36 = .bool true := tellV hp 1 36 rfl rfl (fun h => by cases h)
      change OpGoal _ _ _ f w2 Ext _
      refine og_guard (j := 36) (want := true) rfl qg ?_
      change OpGoal _ _ _ f w2 Ext _
      refine og_call (P := Try.prog) _ _ _ #[f 37] Try.func31 (by kernel_rfl) (by kernel_rfl) rfl rfl (by kernel_rfl) ?_
      rw [q62]
      refine (rfrac_calls _ (Rat.divInt (-7) 2) 1 _ (R4.ext hE) (by omega)).mono ?_
      rintro e w' ⟨v', rfl, h1, _, h2⟩
      rw [ex5] at h1
      exact ⟨v', rfl, h2, h1.mono hS⟩
    case o39 =>
      intro f w2 hG hp hl
      have hE : Ext w8 w2 := hG
      have hS := hE.size
      have qg : f 36 = .bool true := tellV hp 1 36 rfl rfl (fun h => by cases h)
      change OpGoal _ _ _ f w2 Ext _
      refine og_guard (j := 36) (want := true) rfl qg ?_
      change OpGoal _ _ _ f w2 Ext _
      refine og_call (P := Try.prog) _ _ _ #[.int .i64 1, .int .i64 2] Try.func25 (by kernel_rfl) (by kernel_rfl) rfl rfl (by kernel_rfl) ?_
      refine (small_calls 1 2 _ (by omega) (by omega) (by omega) (by omega) (by omega)).mono ?_
      rintro e w' ⟨v', rfl, h1, h2⟩
      exact ⟨v', rfl, h2, h1.mono hS⟩
    case o40 =>
      intro f w2 hG hp hl
      have hE : Ext w8 w2 := hG
      have hS := hE.size
      have q63 := tellV hp 0 38 rfl rfl (fun _ => hE)
      have q64 := tellV hp 1 39 rfl rfl (fun _ => hE)
      have qg : f 36 = .bool true := tellV hp 3 36 rfl rfl (fun h => by cases h)
      change OpGoal _ _ _ f w2 Ext _
      refine og_guard (j := 36) (want := true) rfl qg ?_
      change OpGoal _ _ _ f w2 Ext _
      refine og_call (P := Try.prog) _ _ _ #[f 38, f 39] Try.func16 (by kernel_rfl) (by kernel_rfl) rfl rfl (by kernel_rfl) ?_
      refine (same_true _ _ _ _ _ _ q63 q64).mono ?_
      rintro e w' ⟨rfl, h2⟩
      exact ⟨_, rfl, h2, rfl⟩
    case o41 =>
      intro f w2 hG hp hl
      have hE : Ext w8 w2 := hG
      have hS := hE.size
      have q61 : f 36 = .bool true := tellV hp 0 36 rfl rfl (fun h => by cases h)
      have q65 : f 40 = .bool true := tellV hp 1 40 rfl rfl (fun h => by cases h)
      simp only [OpGoal]
      go_simp
      exact ⟨_, rfl, Ext.refl _, rfl⟩
    case o42 =>
      intro f w2 hG hp hl
      have hE : Ext w8 w2 := hG
      have hS := hE.size
      have q66 : f 41 = .bool true := tellV hp 0 41 rfl rfl (fun h => by cases h)
      simp only [OpGoal]
      go_simp
      exact ⟨_, rfl, Ext.refl _, rfl⟩
    case o43 =>
      intro f w2 hG hp hl
      have hE : Ext w8 w2 := hG
      have hS := hE.size
      have qg : f 42 = .bool true := tellV hp 0 42 rfl rfl (fun h => by cases h)
      change OpGoal _ _ _ f w2 Ext _
      refine og_guard (j := 42) (want := true) rfl qg ?_
      simp only [OpGoal]
      go_simp
      exact ⟨_, rfl, Ext.refl _, rfl⟩
    case o44 =>
      intro f w2 hG hp hl
      have hE : Ext w8 w2 := hG
      have hS := hE.size
      have q68 : f 43 = .agg #[.bool false, .slice none 0 0, .slice none 0 0] := tellV hp 0 43 rfl rfl (fun h => by cases h)
      have qg : f 42 = .bool true := tellV hp 1 42 rfl rfl (fun h => by cases h)
      change OpGoal _ _ _ f w2 Ext _
      refine og_guard (j := 42) (want := true) rfl qg ?_
      change OpGoal _ _ _ f w2 Ext _
      refine og_call (P := Try.prog) _ _ _ #[f 43] Try.func44 (by kernel_rfl) (by kernel_rfl) rfl rfl (by kernel_rfl) ?_
      rw [q68]
      refine (form_calls _ 0 1 _ (zeroQ.isR _) (by omega)).mono ?_
      rintro e w' ⟨v', rfl, h1, h2⟩
      rw [ex6] at h1
      exact ⟨v', rfl, h2, h1.mono hS⟩
    case o45 =>
      intro f w2 hG hp hl
      have hE : Ext w8 w2 := hG
      have hS := hE.size
      have qg : f 42 = .bool true := tellV hp 1 42 rfl rfl (fun h => by cases h)
      change OpGoal _ _ _ f w2 Ext _
      refine og_guard (j := 42) (want := true) rfl qg ?_
      change OpGoal _ _ _ f w2 Ext _
      refine og_call (P := Try.prog) _ _ _ #[.int .i64 0, .int .i64 1] Try.func25 (by kernel_rfl) (by kernel_rfl) rfl rfl (by kernel_rfl) ?_
      refine (small_calls 0 1 _ (by omega) (by omega) (by omega) (by omega) (by omega)).mono ?_
      rintro e w' ⟨v', rfl, h1, h2⟩
      exact ⟨v', rfl, h2, h1.mono hS⟩
    case o46 =>
      intro f w2 hG hp hl
      have hE : Ext w8 w2 := hG
      have hS := hE.size
      have q69 := tellV hp 0 44 rfl rfl (fun _ => hE)
      have q70 := tellV hp 1 45 rfl rfl (fun _ => hE)
      have qg : f 42 = .bool true := tellV hp 3 42 rfl rfl (fun h => by cases h)
      change OpGoal _ _ _ f w2 Ext _
      refine og_guard (j := 42) (want := true) rfl qg ?_
      change OpGoal _ _ _ f w2 Ext _
      refine og_call (P := Try.prog) _ _ _ #[f 44, f 45] Try.func16 (by kernel_rfl) (by kernel_rfl) rfl rfl (by kernel_rfl) ?_
      refine (same_true _ _ _ _ _ _ q69 q70).mono ?_
      rintro e w' ⟨rfl, h2⟩
      exact ⟨_, rfl, h2, rfl⟩
    case o47 =>
      intro f w2 hG hp hl
      have hE : Ext w8 w2 := hG
      have hS := hE.size
      have q67 : f 42 = .bool true := tellV hp 0 42 rfl rfl (fun h => by cases h)
      have q71 : f 46 = .bool true := tellV hp 1 46 rfl rfl (fun h => by cases h)
      simp only [OpGoal]
      go_simp
      exact ⟨_, rfl, Ext.refl _, rfl⟩
    case o48 =>
      intro f w2 hG hp hl
      have hE : Ext w8 w2 := hG
      have hS := hE.size
      have q72 : f 47 = .bool true := tellV hp 0 47 rfl rfl (fun h => by cases h)
      simp only [OpGoal]
      go_simp
      exact ⟨_, rfl, Ext.refl _, rfl⟩
  · intro f w2 hG hp
    have hE : Ext w8 w2 := ChgS.nil hG
    have q0 : f 48 = .bool true := endV hp 48 (by decide) rfl (fun h => by cases h)
    try simp only [q0]
    clear hp
    go_wp2
    go_ret
    exact ⟨rfl, E.trans hE⟩
end Go.Proofs.Ytnefipinicfegaa

/-
  A law's arguments opened, and its end: a law that returns true and leaves what was there.
-/
namespace Go.Proofs.Ytnefipinicfegaa
open Go.RowKit
open Go.ChangeShapes Go.WideShapes Go.ChangeAt
set_option linter.unusedVariables false
set_option linter.unusedSimpArgs false


section
variable {H : Type} {enc : TypeId × Value → H} {P : Program} {w : World}
set_option maxRecDepth 100000 in
set_option maxHeartbeats 1000000 in
theorem trodAll_ext (hl : laidOutB P = true) {W W' : World} (hE : Ext W W') (sp : Nat → Bool) : ∀ {ts : List TypeId} {vs : List Value} {ds : List (DataW H)} {ps : List MemPlace},
    (∀ t ∈ ts, P.readableRec t = true ∧ t < P.types.size) → DataW.TrodAll enc P W 0 (fun _ => true) true ts vs ds ps → (∀ x ∈ ps, x.block < W.heap.size) → (∀ x ∈ ps, sp x.block = true) → DataW.TrodAll enc P W' 0 sp true ts vs ds ps
  | [], vs, ds, ps, _, h, _, _ => by
    obtain ⟨rfl, rfl, rfl⟩ := trodAll_nil h
    exact trodAll_mk0
  | t :: ts, vs, ds, ps, ht, h, hlt, hsp => by
    obtain ⟨v, vs', d, ds', p, q, rfl, rfl, rfl, h1, h2⟩ := trodAll_cons h
    have h0 := ht t (List.mem_cons_self ..)
    exact trodAll_cons_mk (WideElems.Trod_stays hl h0.1 h0.2 h1 (fun x hx => hE.below.same (hlt x (List.mem_append_left _ hx))) (fun x hx => hsp x (List.mem_append_left _ hx)))
      (trodAll_ext hl hE sp (fun t' ht' => ht t' (List.mem_cons_of_mem _ ht')) h2 (fun x hx => hlt x (List.mem_append_right _ hx)) (fun x hx => hsp x (List.mem_append_right _ hx)))

/-- A reading of so many words. -/
def wordsIn {H : Type} (d : DataW H) (n : Nat) : Prop := (d = .nil ∧ n = 0) ∨ ∃ es rs, d = .slice es rs ∧ es.length = n
def wordsI {H : Type} (d : DataW H) (n : Nat) : Prop := ∃ d0 d1, d = .agg [d0, d1] ∧ wordsIn d1 n
def wordsQ {H : Type} (d : DataW H) (n m : Nat) : Prop := ∃ d0 d1, d = .agg [d0, d1] ∧ wordsI d0 n ∧ wordsIn d1 m
set_option maxRecDepth 100000 in
set_option maxHeartbeats 1000000 in
theorem open_words {base : Nat} {spare : Nat → Bool} {held : Bool} {t e : TypeId} {fuel : Nat} {cs : List Value} {x : DataW H × List MemPlace} (ht : P.underlying t = some (.slice e)) (he : P.underlying e = some (.int .u64)) (hc : P.cellsOf e = 1) (hby : 8 ≤ P.bytesOf e)
    (h : DataW.trod enc P w base spare held fuel t cs = some x) : ∃ v xs, cs = [v] ∧ IsL .u64 w v xs ∧ Dig W xs ∧ (∀ B, (∀ n ∈ x.1.weights P t, n ≤ B) → xs.length * 8 ≤ B) ∧ wordsIn x.1 xs.length := by
  rcases open_ints ht he hc h with ⟨rfl, hx0⟩ | ⟨a, len, cap, zs, rfl, _, hl, hm, hzl, hx, hcell, hwf⟩
  · exact ⟨_, [], rfl, ⟨none, 0, rfl, Nat.le_refl _, by omega, Rd.nil _ _⟩, Dig.nil, fun B _ => by simp, .inl ⟨by rw [hx0], rfl⟩⟩
  · have hlz : len ≤ zs.length := by rw [hzl]; split <;> omega
    have hnn : ∀ z ∈ zs, 0 ≤ z ∧ z ≤ 18446744073709551615 := fun z hz => bounds_u64 (hwf z hz)
    refine ⟨_, (zs.take len).map Int.toNat, rfl, ⟨some a, cap, by rw [List.length_map, List.length_take]; congr 1; omega, by rw [List.length_map, List.length_take]; omega, by unfold maxLen at hm; omega, ?_⟩, ?_, ?_, ?_⟩
    · rcases Nat.eq_zero_or_pos len with h0 | h0
      · subst h0; exact .inl (by simp [vals])
      · obtain ⟨b, off, rfl, hc2⟩ := ints_at hcell (by omega)
        refine .inr ⟨b, off, rfl, fun i v hi => ?_⟩
        have hil : i < len := by
          have := (List.getElem?_eq_some_iff.1 hi).1
          rw [vals_length, List.length_map, List.length_take] at this
          omega
        have hiz : i < zs.length := by omega
        rw [hc2 i hiz, ← hi]
        have hz := hnn zs[i] (List.getElem_mem hiz)
        simp [vals, List.getElem?_map, hil, hiz, List.getD]
        omega
    · intro y hy
      obtain ⟨z, hz, rfl⟩ := List.mem_map.1 hy
      have := hnn z (List.mem_of_mem_take hz)
      rw [W_eq]
      omega
    · intro B hB
      subst hx
      have := hB (((lits (H := H) .u64 (zs.take len)).length + (lits (H := H) .u64 (zs.drop len)).length) * P.bytesOf e) (by simp [DataW.weights, ht])
      rw [List.length_map]
      have h1 : (lits (H := H) .u64 (zs.take len)).length = (zs.take len).length := by simp [lits]
      rw [h1] at this
      have h2 : (zs.take len).length * 8 ≤ ((zs.take len).length + (lits (H := H) .u64 (zs.drop len)).length) * P.bytesOf e := Nat.mul_le_mul (Nat.le_add_right _ _) hby
      omega
    · subst hx
      exact .inr ⟨_, _, rfl, by simp [lits]⟩
end

set_option maxRecDepth 100000 in
set_option maxHeartbeats 1000000 in
theorem bytesW : 8 ≤ Try.prog.bytesOf 79 := by decide +kernel
set_option maxRecDepth 100000 in
set_option maxHeartbeats 1000000 in
theorem cellsW : Try.prog.cellsOf 79 = 1 := by kernel_rfl
set_option maxRecDepth 100000 in
set_option maxHeartbeats 1000000 in
theorem cellsI : Try.prog.cellsOf 24 = 2 := by kernel_rfl
set_option maxRecDepth 100000 in
set_option maxHeartbeats 1000000 in
theorem cellsQ : Try.prog.cellsOf 28 = 3 := by kernel_rfl
set_option maxRecDepth 100000 in
set_option maxHeartbeats 1000000 in
theorem cellsB : Try.prog.cellsOf 4 = 1 := by kernel_rfl
set_option maxRecDepth 100000 in
set_option maxHeartbeats 1000000 in
theorem cellsS : Try.prog.cellsOf 22 = 1 := by kernel_rfl

section
variable {H : Type} {enc : TypeId × Value → H} {w : World} {base : Nat} {spare : Nat → Bool} {held : Bool}
set_option maxRecDepth 100000 in
set_option maxHeartbeats 1000000 in
theorem open_bool1 {fuel : Nat} {cs : List Value} {x : DataW H × List MemPlace} (h : DataW.trod enc Try.prog w base spare held fuel 4 cs = some x) : ∃ b, cs = [.bool b] := by
  cases fuel with
  | zero => simp [DataW.trod] at h
  | succ n =>
    unfold DataW.trod at h
    rw [Try.underlying4] at h
    rcases cs with _ | ⟨c, _ | ⟨c2, cs⟩⟩ <;> (try cases c) <;> simp at h
    exact ⟨_, rfl⟩
set_option maxRecDepth 100000 in
set_option maxHeartbeats 1000000 in
theorem open_intC {fuel : Nat} {cs : List Value} {x : DataW H × List MemPlace} (h : DataW.trod enc Try.prog w base spare held fuel 24 cs = some x) : ∃ b s xs, cs = [.bool b, s] ∧ IsL .u64 w s xs ∧ Dig W xs ∧ (∀ B, (∀ n ∈ x.1.weights Try.prog 24, n ≤ B) → xs.length * 8 ≤ B) ∧ wordsI x.1 xs.length := by
  obtain ⟨y0, y1, n, hx, hl, h0, h1⟩ := trod_struct2 Try.underlying24 h
  rw [cellsI] at hl
  obtain ⟨c0, c1, rfl⟩ : ∃ c0 c1, cs = [c0, c1] := by
    rcases cs with _ | ⟨c0, _ | ⟨c1, _ | ⟨c2, cs⟩⟩⟩ <;> simp at hl
    exact ⟨_, _, rfl⟩
  obtain ⟨b, hb⟩ := open_bool1 h0
  obtain ⟨s, xs, hs, hL, hd, hB, hw⟩ := open_words Try.underlying22 Try.underlying79 cellsW bytesW h1
  have e0 : List.take (Try.prog.cellsOf 4) (List.drop 0 [c0, c1]) = [c0] := by rw [cellsB]; rfl
  have e1 : List.take (Try.prog.cellsOf 22) (List.drop 1 [c0, c1]) = [c1] := by rw [cellsS]; rfl
  have hb' : [c0] = [.bool b] := e0 ▸ hb
  have hs' : [c1] = [s] := e1 ▸ hs
  simp only [List.cons.injEq, and_true] at hb' hs'
  subst hb' hs'
  exact ⟨b, _, xs, rfl, hL, hd, fun B h => hB B fun n hn => h n (by rw [hx]; simp only [DataW.weights, Try.underlying24]; exact List.mem_append_right _ (List.mem_append_left _ hn)), by rw [hx]; exact ⟨_, _, rfl, hw⟩⟩
set_option maxRecDepth 100000 in
set_option maxHeartbeats 1000000 in
theorem open_ratC {fuel : Nat} {cs : List Value} {x : DataW H × List MemPlace} (h : DataW.trod enc Try.prog w base spare held fuel 28 cs = some x) : ∃ b s t xs ys, cs = [.bool b, s, t] ∧ IsL .u64 w s xs ∧ Dig W xs ∧ IsL .u64 w t ys ∧ Dig W ys ∧ (∀ B, (∀ n ∈ x.1.weights Try.prog 28, n ≤ B) → xs.length * 8 ≤ B ∧ ys.length * 8 ≤ B) ∧ wordsQ x.1 xs.length ys.length := by
  obtain ⟨y0, y1, n, hx, hl, h0, h1⟩ := trod_struct2 Try.underlying28 h
  rw [cellsQ] at hl
  obtain ⟨c0, c1, c2, rfl⟩ : ∃ c0 c1 c2, cs = [c0, c1, c2] := by
    rcases cs with _ | ⟨c0, _ | ⟨c1, _ | ⟨c2, _ | ⟨c3, cs⟩⟩⟩⟩ <;> simp at hl
    exact ⟨_, _, _, rfl⟩
  obtain ⟨b, s, xs, hb, hL, hd, hB, hw⟩ := open_intC h0
  obtain ⟨t, ys, ht, hL2, hd2, hB2, hw2⟩ := open_words Try.underlying22 Try.underlying79 cellsW bytesW h1
  have e0 : List.take (Try.prog.cellsOf 24) (List.drop 0 [c0, c1, c2]) = [c0, c1] := by rw [cellsI]; rfl
  have e1 : List.take (Try.prog.cellsOf 22) (List.drop 2 [c0, c1, c2]) = [c2] := by rw [cellsS]; rfl
  have hb' : [c0, c1] = [.bool b, s] := e0 ▸ hb
  have ht' : [c2] = [t] := e1 ▸ ht
  simp only [List.cons.injEq, and_true] at hb' ht'
  obtain ⟨rfl, rfl⟩ := hb'
  subst ht'
  refine ⟨b, _, _, xs, ys, rfl, hL, hd, hL2, hd2, fun B h => ⟨hB B fun n hn => h n ?_, hB2 B fun n hn => h n ?_⟩, by rw [hx]; exact ⟨_, _, rfl, hw, hw2⟩⟩
  · rw [hx]; simp only [DataW.weights, Try.underlying28]; exact List.mem_append_left _ hn
  · rw [hx]; simp only [DataW.weights, Try.underlying28]; exact List.mem_append_right _ (List.mem_append_left _ hn)
set_option maxRecDepth 100000 in
set_option maxHeartbeats 1000000 in
theorem open_ratS {v : Value} {d : DataW H} {p : List MemPlace} {W0 : World} {b0 : Nat} (hv : Value.okWide Try.prog W0 .any b0 28 v) (h : DataW.Trod enc Try.prog w base spare held 28 v d p) : ∃ b xs ys, RawQ w v b xs ys ∧ Dig W xs ∧ Dig W ys ∧ (∀ B, (∀ n ∈ d.weights Try.prog 28, n ≤ B) → xs.length * 8 ≤ B ∧ ys.length * 8 ≤ B) ∧ wordsQ d xs.length ys.length := by
  obtain ⟨cs, rfl, _⟩ := okWide_struct Try.underlying28 hv
  obtain ⟨fuel, hf⟩ := h
  obtain ⟨b, s, t, xs, ys, hc, hL, hd, hL2, hd2, hB⟩ := open_ratC hf
  have hcs : cs = #[.bool b, s, t] := by
    have : cs.toList = [.bool b, s, t] := by simpa [Value.cells] using hc
    rw [← Array.toArray_toList (xs := cs), this]
  subst hcs
  exact ⟨b, xs, ys, ⟨s, t, rfl, hL, hL2⟩, hd, hd2, hB⟩
set_option maxRecDepth 100000 in
set_option maxHeartbeats 1000000 in
theorem open_intS {v : Value} {d : DataW H} {p : List MemPlace} {W0 : World} {b0 : Nat} (hv : Value.okWide Try.prog W0 .any b0 24 v) (h : DataW.Trod enc Try.prog w base spare held 24 v d p) : ∃ b xs, RawI w v b xs ∧ Dig W xs ∧ (∀ B, (∀ n ∈ d.weights Try.prog 24, n ≤ B) → xs.length * 8 ≤ B) ∧ wordsI d xs.length := by
  obtain ⟨cs, rfl, _⟩ := okWide_struct Try.underlying24 hv
  obtain ⟨fuel, hf⟩ := h
  obtain ⟨b, s, xs, hc, hL, hd, hB⟩ := open_intC hf
  have hcs : cs = #[.bool b, s] := by
    have : cs.toList = [.bool b, s] := by simpa [Value.cells] using hc
    rw [← Array.toArray_toList (xs := cs), this]
  subst hcs
  exact ⟨b, xs, ⟨s, rfl, hL⟩, hd, hB⟩
end

/-! Fractions as they are handed in. -/
def rawN (b : Bool) (xs : List Nat) : Int := sgn b (val W xs)
def rawD (ys : List Nat) : Nat := if val W ys = 0 then 1 else val W ys
def rawR (b : Bool) (xs ys : List Nat) : Rat := mkRat (rawN b xs) (rawD ys)
set_option maxRecDepth 100000 in
set_option maxHeartbeats 1000000 in
theorem RawQ.isQ {w : World} {v : Value} {b : Bool} {xs ys : List Nat} (h : RawQ w v b xs ys) (dx : Dig W xs) (dy : Dig W ys) (h1 : xs.length ≤ LIM .u64) (h2 : ys.length ≤ LIM .u64) : IsQ w v (rawN b xs) (rawD ys) := by
  obtain ⟨s, t, rfl, hs, ht⟩ := h
  exact ⟨b, s, t, val W xs, val W ys, rfl, ⟨xs, hs, h1, dx, rfl⟩, rfl, ⟨ys, ht, h2, dy, rfl⟩, rfl⟩
set_option maxRecDepth 100000 in
set_option maxHeartbeats 1000000 in
theorem rawD_sz {ys : List Nat} (dy : Dig W ys) : sz W (rawD ys) ≤ max ys.length 1 := by
  unfold rawD
  split
  · rw [show sz W 1 = 1 from rfl]; omega
  · exact Nat.le_trans (dg_len_val W_gt dy) (by omega)
set_option maxRecDepth 100000 in
set_option maxHeartbeats 1000000 in
theorem rawN_sz {b : Bool} {xs : List Nat} (dx : Dig W xs) : szZ (rawN b xs) ≤ xs.length := by
  unfold rawN szZ
  rw [sgn_natAbs]
  exact dg_len_val W_gt dx
set_option maxRecDepth 100000 in
set_option maxHeartbeats 1000000 in
theorem RawQ.isR {w : World} {v : Value} {b : Bool} {xs ys : List Nat} (h : RawQ w v b xs ys) (dx : Dig W xs) (dy : Dig W ys) (k : Nat) (h1 : xs.length ≤ k) (h2 : ys.length ≤ k) (hk : 1 ≤ k) (hk2 : k ≤ LIM .u64) : IsR w v (rawR b xs ys) k := by
  have := rawD_sz dy
  have := rawN_sz (b := b) dx
  exact ⟨_, _, h.isQ dx dy (by omega) (by omega), rfl, by omega, by omega⟩
set_option maxRecDepth 100000 in
set_option maxHeartbeats 1000000 in
theorem W_TK : W < TK ^ 5 := by
  rw [W_eq, TK_eq]
  decide
set_option maxRecDepth 100000 in
set_option maxHeartbeats 1000000 in
theorem szTK_le (n : Nat) : sz TK n ≤ 5 * sz W n := by
  refine dg_len_le TK_gt ?_
  rw [Nat.pow_mul]
  exact Nat.lt_of_lt_of_le (dg_len_lt W_gt n) (Nat.pow_le_pow_left (Nat.le_of_lt W_TK) _)
set_option maxRecDepth 100000 in
set_option maxHeartbeats 1000000 in
theorem rawD_pos (ys : List Nat) : 0 < rawD ys := by unfold rawD; split <;> omega
set_option maxRecDepth 100000 in
set_option maxHeartbeats 1000000 in
theorem rawR_szD {b : Bool} {xs ys : List Nat} (dx : Dig W xs) (dy : Dig W ys) (k : Nat) (h1 : xs.length ≤ k) (h2 : ys.length ≤ k) (hk : 1 ≤ k) : szT (rawN b xs) ≤ 5 * k ∧ sz TK (rawD ys) ≤ 5 * k ∧ szD (rawR b xs ys) ≤ 5 * k := by
  have a1 := rawD_sz dy
  have a2 := rawN_sz (b := b) dx
  have a3 := szTK_le (rawD ys)
  have a4 : szT (rawN b xs) ≤ 5 * szZ (rawN b xs) := szTK_le _
  have a5 := szD_mkRat (rawN b xs) (rawD ys) (rawD_pos ys)
  unfold rawR szD
  omega
set_option maxRecDepth 100000 in
set_option maxHeartbeats 1000000 in
theorem szD_div {x y : Rat} {k l : Nat} (hx : szD x ≤ k) (hy : szD y ≤ l) (hy0 : y ≠ 0) : szD (x / y) ≤ k + l := by
  have hq := div_mkRat x.num y.num x.den y.den
  rw [Rat.mkRat_self, Rat.mkRat_self] at hq
  rw [hq]
  have h1 := szD_le hx
  have h2 := szD_le hy
  have sxy := szT_mul x.num y.den
  have syx := szT_mul y.num x.den
  have s1' : szT (x.den : Int) = sz TK x.den := rfl
  have s2' : szT (y.den : Int) = sz TK y.den := rfl
  have hny : y.num ≠ 0 := fun h => hy0 (Rat.num_eq_zero.1 h)
  have hxd := x.den_pos
  have := szD_divInt (x.num * y.den) (y.num * x.den) (Int.mul_ne_zero hny (by omega))
  omega
end Go.Proofs.Ytnefipinicfegaa

/-
  The law RatQuotients returns true, whatever its two fractions are.
-/
namespace Go.Proofs.Ytnefipinicfegaa
open Go.RowKit
set_option linter.unusedVariables false
set_option linter.unusedSimpArgs false

set_option maxRecDepth 100000 in
set_option maxHeartbeats 1000000 in
theorem FrQd.opn {B0 : Nat} {w : World} {v : Value} {q : Rat} (h : FrQd B0 w v q) : ∃ b ad l cap ad2 l2 cap2, v = .agg #[.bool b, .slice ad l cap, .slice ad2 l2 cap2] ∧ FrQd B0 w (.agg #[.bool b, .slice ad l cap, .slice ad2 l2 cap2]) q := by
  have h' := h
  obtain ⟨s, t, rfl, hn, hm⟩ := h
  obtain ⟨ad, cap, rfl⟩ := hn.slice
  obtain ⟨ad2, cap2, rfl⟩ := hm.slice
  exact ⟨_, _, _, _, _, _, _, rfl, h'⟩
set_option maxRecDepth 100000 in
set_option maxHeartbeats 1000000 in
theorem RawQ.opn2 {w : World} {v : Value} {b : Bool} {xs ys : List Nat} (h : RawQ w v b xs ys) : ∃ ad n cap ad2 m cap2, n = xs.length ∧ m = ys.length ∧ v = .agg #[.bool b, .slice ad n cap, .slice ad2 m cap2] := by
  obtain ⟨s, t, rfl, ⟨ad, cap, rfl, _⟩, ⟨ad2, cap2, rfl, _⟩⟩ := h
  exact ⟨_, _, _, _, _, _, rfl, rfl, rfl⟩
set_option maxRecDepth 100000 in
set_option maxHeartbeats 1000000 in
theorem RawQ.opn {w : World} {v : Value} {b : Bool} {xs ys : List Nat} (h : RawQ w v b xs ys) : ∃ ad cap ad2 cap2, v = .agg #[.bool b, .slice ad xs.length cap, .slice ad2 ys.length cap2] := by
  obtain ⟨s, t, rfl, ⟨ad, cap, rfl, _⟩, ⟨ad2, cap2, rfl, _⟩⟩ := h
  exact ⟨_, _, _, _, rfl⟩
set_option maxRecDepth 100000 in
set_option maxHeartbeats 1000000 in
theorem len_fine {ys : List Nat} {w : World} {s : Value} (h : IsL .u64 w s ys) : ys.length ≤ 9223372036854775807 := by
  obtain ⟨ad, cap, _, h1, h2, _⟩ := h
  omega

set_option maxRecDepth 100000 in
set_option maxHeartbeats 1000000 in
/-- Where the fractions are greater than is looked at, or all is looked at. -/
theorem great_split (n m : Nat) : decide (12 < n ∨ 12 < m) = true ∨ (decide (12 < n ∨ 12 < m) = false ∧ n ≤ 12 ∧ m ≤ 12) := by
  by_cases h : 12 < n ∨ 12 < m
  · exact .inl (decide_eq_true h)
  · exact .inr ⟨decide_eq_false h, by omega, by omega⟩

set_option maxRecDepth 100000 in
set_option maxHeartbeats 4000000 in
theorem ratQuotients_calls (v u : Value) (b c : Bool) (xs ys xs2 ys2 : List Nat) (w : World) (hv : RawQ w v b xs ys) (hu : RawQ w u c xs2 ys2) (dx : Dig W xs) (dy : Dig W ys) (dx2 : Dig W xs2) (dy2 : Dig W ys2)
    (hl1 : xs.length + ys.length ≤ 9223372036854775807) (hl2 : xs2.length + ys2.length ≤ 9223372036854775807) :
    Calls Try.prog 6 #[v, u] w fun e w' => e = .returned (.bool true) ∧ Ext w w' := by
  have Hv := Lib.hid hv
  have Hu := Lib.hid hu
  obtain ⟨ad, n1, cap, ad2, n2, cap2, hn1, hn2, rfl⟩ := hv.opn2
  obtain ⟨bd, n3, dap, bd2, n4, dap2, hn3, hn4, rfl⟩ := hu.opn2
  have Hgs := Lib.hid (great_split (n1 + n2) (n3 + n4))
  clear hv hu
  have Hn1 := Lib.hid hn1
  have Hn2 := Lib.hid hn2
  have Hn3 := Lib.hid hn3
  have Hn4 := Lib.hid hn4
  clear hn1 hn2 hn3 hn4
  go_enter Try.func6, Try.ntmps6
  obtain ⟨w1, hw1, e1, b1, b2, s1⟩ := alloc2 w #[.bool b, .slice ad n1 cap, .slice ad2 n2 cap2] #[.bool c, .slice bd n3 dap, .slice bd2 n4 dap2] 28 28
  go_wp2_with fail
  rw [← hw1]
  refine (speaks_calls _).mono ?_
  rintro e w2 ⟨rfl, e2⟩
  have B1 := b1.ext e2
  have B2 := b2.ext e2
  have E := e1.trans e2
  have hc0 := B1.cell 0
  have hc1 := B1.cell 1
  have hc2 := B1.cell 2
  have hd0 := B2.cell 0
  have hd1 := B2.cell 1
  have hd2 := B2.cell 2
  go_wp2_with fail
  refine (great_calls _ _ b c xs ys xs2 ys2 _ (Hv.out.ext E) (Hu.out.ext E) (by have := Hn1.out; have := Hn2.out; omega) (by have := Hn3.out; have := Hn4.out; omega)).mono ?_
  rw [← Hn1.out, ← Hn2.out, ← Hn3.out, ← Hn4.out]
  rintro e w3 ⟨rfl, e3⟩
  rcases Hgs.out with hg | ⟨hg, hk1, hk2⟩
  · rw [hg]
    go_wp2
    go_ret
    exact ⟨rfl, E.trans e3⟩
  · rw [hg]
    have E3 := E.trans e3
    have C1 := B1.ext e3
    have C2 := B2.ext e3
    have X1 : xs.length ≤ 12 := by rw [← Hn1.out]; omega
    have X2 : ys.length ≤ 12 := by rw [← Hn2.out]; omega
    have X3 : xs2.length ≤ 12 := by rw [← Hn3.out]; omega
    have X4 : ys2.length ≤ 12 := by rw [← Hn4.out]; omega
    have lim : (12 : Nat) ≤ LIM .u64 := by (first | rw [LIM_eq] | rw [LIM_eqT]); omega
    obtain ⟨x, hx⟩ : ∃ x, x = rawR b xs ys := ⟨_, rfl⟩
    obtain ⟨y, hy⟩ : ∃ y, y = rawR c xs2 ys2 := ⟨_, rfl⟩
    have RX := Lib.hid (show ∀ wz vz, RawQ wz vz b xs ys → IsR wz vz x 12 from fun wz vz h => by rw [hx]; exact h.isR dx dy 12 X1 X2 (by omega) lim)
    have RY := Lib.hid (show ∀ wz vz, RawQ wz vz c xs2 ys2 → IsR wz vz y 12 from fun wz vz h => by rw [hy]; exact h.isR dx2 dy2 12 X3 X4 (by omega) lim)
    have SX := Lib.hid (rawR_szD (b := b) dx dy 12 X1 X2 (by omega))
    have SY := Lib.hid (rawR_szD (b := c) dx2 dy2 12 X3 X4 (by omega))
    have Hx := Lib.hid hx
    have Hy := Lib.hid hy
    have hxD : szD x ≤ 60 := by rw [Hx.out]; exact SX.out.2.2
    have hyD : szD y ≤ 60 := by rw [Hy.out]; exact SY.out.2.2
    clear hx hy hc0 hc1 hc2 hd0 hd1 hd2
    by_cases hy0 : y = 0
    · have hys : y.num.sign = 0 := by rw [hy0]; rfl
      have Hy0 := Lib.hid hy0
      clear hy0
      go_wp2_with fail
      refine wp_region_als [⟨8, 28, 3, #[.bool false, .slice none 0 0, .slice none 0 0]⟩] [⟨9, ⟨8, 28, 3, #[.bool false, .slice none 0 0, .slice none 0 0]⟩, PA.val (.agg #[.bool false, .slice none 0 0, .slice none 0 0])⟩] [PA.val (.agg #[.bool b, .slice ad n1 cap, .slice ad2 n2 cap2]), PA.frR b xs ys, PA.val (.agg #[.bool c, .slice bd n3 dap, .slice bd2 n4 dap2]), PA.frR c xs2 ys2, PA.val (.tuple #[.agg #[.bool false, .slice none 0 0, .slice none 0 0], .int .i64 3]), PA.val (.tuple #[.agg #[.bool false, .slice none 0 0, .slice none 0 0], .int .i64 3]), PA.val (.agg #[.bool false, .slice none 0 0, .slice none 0 0]), PA.val (.int .i64 3), PA.any, PA.any, PA.val (.int .i64 3)]
        (by kernel_rfl) (by kernel_rfl) (fun f => (by simp only [fillR, fillL, List.setIfInBounds_toArray, List.set_cons_succ, List.set_cons_zero, Nat.reduceAdd]; rfl)) ?_ ?_ ?_ ?_ ?_
      · intro x hx; simp only [List.mem_cons, List.not_mem_nil, or_false] at hx; rcases hx with rfl
        · exact ⟨rfl, rfl, by decide, by decide, rfl, noInt3 _ _ _ _ _ _ _⟩
      · intro x hx; simp only [List.mem_cons, List.not_mem_nil, or_false] at hx; rcases hx with rfl <;> exact ⟨rfl, rfl, by simp⟩
      · intro x hx y hy h; simp only [List.mem_cons, List.not_mem_nil, or_false] at hx hy; rcases hx with rfl <;> rcases hy with rfl
        · exact absurd rfl h
      · refine ⟨?o0, ?o1, ?o2, ?o3, ?o4, ?o5, ?o6, ?o7, ?o8, ?o9, ?o10, trivial⟩
        case o0 =>
          intro f w4 hE hp
          have hS := hE.size
          change OpGoal _ _ _ f w4 Ext _
          exact og_load (P := Try.prog) _ _ w.heap.size _ _ _ rfl rfl rfl (C1.ext hE) Try.underlying28 rfl (by kernel_rfl) rfl
        case o1 =>
          intro f w4 hE hp
          have hS := hE.size
          have q14 : f 0 = .agg #[.bool b, .slice ad n1 cap, .slice ad2 n2 cap2] := tellA hp 0 0 rfl rfl rfl
          change OpGoal _ _ _ f w4 Ext _
          refine og_call (P := Try.prog) _ _ _ #[f 0] Try.func27 (by kernel_rfl) (by kernel_rfl) rfl rfl (by kernel_rfl) ?_
          rw [q14]
          refine (rqcopy3_calls _ b xs ys _ (Hv.out.ext (E3.trans hE)) (by omega) (by omega)).mono ?_
          rintro e w' ⟨v', rfl, h1, h2⟩
          exact ⟨v', rfl, h2, h1.mono hS⟩
        case o2 =>
          intro f w4 hE hp
          have hS := hE.size
          change OpGoal _ _ _ f w4 Ext _
          exact og_load (P := Try.prog) _ _ (w.heap.size + 1) _ _ _ rfl rfl rfl (C2.ext hE) Try.underlying28 rfl (by kernel_rfl) rfl
        case o3 =>
          intro f w4 hE hp
          have hS := hE.size
          have q16 : f 2 = .agg #[.bool c, .slice bd n3 dap, .slice bd2 n4 dap2] := tellA hp 0 2 rfl rfl rfl
          change OpGoal _ _ _ f w4 Ext _
          refine og_call (P := Try.prog) _ _ _ #[f 2] Try.func27 (by kernel_rfl) (by kernel_rfl) rfl rfl (by kernel_rfl) ?_
          rw [q16]
          refine (rqcopy3_calls _ c xs2 ys2 _ (Hu.out.ext (E3.trans hE)) (by omega) (by omega)).mono ?_
          rintro e w' ⟨v', rfl, h1, h2⟩
          exact ⟨v', rfl, h2, h1.mono hS⟩
        case o4 =>
          intro f w4 hE hp
          have hS := hE.size
          have q15 := tellA hp 0 1 rfl rfl rfl
          have q17 := tellA hp 1 3 rfl rfl rfl
          change OpGoal _ _ _ f w4 Ext _
          refine og_call (P := Try.prog) _ _ _ #[f 1, f 3] Try.func38 (by kernel_rfl) (by kernel_rfl) rfl rfl (by kernel_rfl) ?_
          refine (rdiv_zero _ _ x 12 12 _ (RX.out _ _ (FrR.raw q15)) (Hy0.out ▸ RY.out _ _ (FrR.raw q17)) (by omega)).mono ?_
          rintro e w' ⟨rfl, h2⟩
          exact ⟨_, rfl, h2, rfl⟩
        case o5 =>
          intro f w4 hE hp
          have hS := hE.size
          have q18 : f 4 = .tuple #[.agg #[.bool false, .slice none 0 0, .slice none 0 0], .int .i64 3] := tellA hp 0 4 rfl rfl rfl
          change OpGoal _ _ _ f w4 Ext _
          exact ⟨_, rfl, Ext.refl _, q18⟩
        case o6 =>
          intro f w4 hE hp
          have hS := hE.size
          have q13 : f 5 = .tuple #[.agg #[.bool false, .slice none 0 0, .slice none 0 0], .int .i64 3] := tellA hp 0 5 rfl rfl rfl
          change OpGoal _ _ _ f w4 Ext _
          simp only [OpGoal]
          go_simp
          exact ⟨_, rfl, Ext.refl _, rfl⟩
        case o7 =>
          intro f w4 hE hp
          have hS := hE.size
          have q13 : f 5 = .tuple #[.agg #[.bool false, .slice none 0 0, .slice none 0 0], .int .i64 3] := tellA hp 0 5 rfl rfl rfl
          change OpGoal _ _ _ f w4 Ext _
          simp only [OpGoal]
          go_simp
          exact ⟨_, rfl, Ext.refl _, rfl⟩
        case o8 =>
          intro f w4 hE hp
          have hS := hE.size
          change OpGoal _ _ _ f w4 (fun a b => b = a.alloc _) _
          exact og_alloc (P := Try.prog) _ _ (.agg #[.bool false, .slice none 0 0, .slice none 0 0]) rfl rfl (by kernel_rfl) rfl
        case o9 =>
          intro f w4 hE hp
          have hS := hE.size
          have q19 : f 6 = .agg #[.bool false, .slice none 0 0, .slice none 0 0] := tellA hp 1 6 rfl rfl rfl
          intro g old hfa hSg hbx hsz hno
          change OpGoal _ _ _ f w4 (Chg g) _
          exact og_storeA (P := Try.prog) (PA.val (.agg #[.bool false, .slice none 0 0, .slice none 0 0])) 3 _ _ _ g _ old _ rfl rfl hfa q19 hbx (by kernel_rfl) hsz rfl (all3 rfl rfl rfl) hSg (show 28 ≠ 79 by decide) (show 28 ≠ 3 by decide) hno (noInt3 _ _ _ _ _ _ _) rfl
        case o10 =>
          intro f w4 hE hp
          have hS := hE.size
          have q20 : f 7 = .int .i64 3 := tellA hp 0 7 rfl rfl rfl
          change OpGoal _ _ _ f w4 Ext _
          simp only [OpGoal]
          go_simp
          exact ⟨_, rfl, Ext.refl _, rfl⟩
      · intro f w4 hE hp hal
        obtain ⟨ga5, ca5, fa5, la5, ba5, na5, pa5⟩ := hal ⟨8, 28, 3, #[.bool false, .slice none 0 0, .slice none 0 0]⟩ (by simp) (by decide)
        dsimp only at fa5 la5 ba5 na5
        have za5 := pa5 ⟨9, ⟨8, 28, 3, #[.bool false, .slice none 0 0, .slice none 0 0]⟩, PA.val (.agg #[.bool false, .slice none 0 0, .slice none 0 0])⟩ (by simp) (by show 9 < 11; decide) rfl rfl
        clear pa5
        have q6 : f 10 = .int .i64 3 := endA hp 10 (by decide) rfl rfl
        try simp only [q6]
        clear hp hal
        cases za5
        have D2 := C2.ext hE
        have hd0 := D2.cell 0
        have hd1 := D2.cell 1
        have hd2 := D2.cell 2
        go_wp2_with fail
        refine (rqof3_calls _ _ _ _ ((Hu.out.ext (E3.trans hE)).isQ dx2 dy2 (by (first | rw [LIM_eq] | rw [LIM_eqT]); omega) (by (first | rw [LIM_eq] | rw [LIM_eqT]); omega)) (by have := SY.out.1; omega) (by have := SY.out.2.1; omega)).mono ?_
        rw [show mkRat (rawN c xs2) (rawD ys2) = y from Hy.out.symm]
        rintro e w5 ⟨v5, rfl, q5, e5⟩
        obtain ⟨b5, ad5, l5, cap5, bd5, m5, dap5, rfl, q5⟩ := q5.opn
        obtain ⟨w6, hw6, e6, b6, s6⟩ := alloc1 w5 #[.bool b5, .slice ad5 l5 cap5, .slice bd5 m5 dap5] 40
        have D5 := ba5.ext (e5.trans e6)
        have hk0 := b6.cell 0
        have hk1 := b6.cell 1
        have hk2 := b6.cell 2
        rw [hw6] at hk0 hk1 hk2
        go_wp2_with fail
        rw [← hw6]
        clear hk0 hk1 hk2 hd0 hd1 hd2
        refine (rqsign3_calls _ y _ (q5.cq.ext e6)).mono ?_
        rintro e w7 ⟨rfl, e7⟩
        have D7 := D5.ext e7
        have hk0 := D7.cell 0
        have hk1 := D7.cell 1
        have hk2 := D7.cell 2
        go_wp2_with fail
        refine (rqsame3_calls _ _ _ _ _ _ _ _ _ (zeroQ.raw w7) (zeroQ.raw w7)).mono ?_
        rintro e w8 ⟨rfl, e8⟩
        go_wp2
        go_ret
        exact ⟨by simp, (E3.trans hE).trans (((e5.trans e6).trans e7).trans e8)⟩
    · have hys : ¬ y.num.sign = 0 := by
        have h1 := sign_cases y.num
        have h2 : y.num ≠ 0 := fun h => hy0 (Rat.num_eq_zero.1 h)
        omega
      have Hy0 := Lib.hid hy0
      clear hy0
      have hqD := szD_div hxD hyD Hy0.out
      go_wp2_with fail
      refine wp_region_als [⟨8, 28, 3, #[.bool false, .slice none 0 0, .slice none 0 0]⟩] [⟨9, ⟨8, 28, 3, #[.bool false, .slice none 0 0, .slice none 0 0]⟩, PA.frQ (x / y)⟩] [PA.val (.agg #[.bool b, .slice ad n1 cap, .slice ad2 n2 cap2]), PA.frR b xs ys, PA.val (.agg #[.bool c, .slice bd n3 dap, .slice bd2 n4 dap2]), PA.frR c xs2 ys2, PA.tupQ (x / y), PA.tupQ (x / y), PA.frQ (x / y), PA.val (.int .i64 0), PA.any, PA.any, PA.val (.int .i64 0)]
        (by kernel_rfl) (by kernel_rfl) (fun f => (by simp only [fillR, fillL, List.setIfInBounds_toArray, List.set_cons_succ, List.set_cons_zero, Nat.reduceAdd]; rfl)) ?_ ?_ ?_ ?_ ?_
      · intro x hx; simp only [List.mem_cons, List.not_mem_nil, or_false] at hx; rcases hx with rfl
        · exact ⟨rfl, rfl, by decide, by decide, rfl, noInt3 _ _ _ _ _ _ _⟩
      · intro x hx; simp only [List.mem_cons, List.not_mem_nil, or_false] at hx; rcases hx with rfl <;> exact ⟨rfl, rfl, by simp⟩
      · intro x hx y hy h; simp only [List.mem_cons, List.not_mem_nil, or_false] at hx hy; rcases hx with rfl <;> rcases hy with rfl
        · exact absurd rfl h
      · refine ⟨?o0, ?o1, ?o2, ?o3, ?o4, ?o5, ?o6, ?o7, ?o8, ?o9, ?o10, trivial⟩
        case o0 =>
          intro f w4 hE hp
          have hS := hE.size
          change OpGoal _ _ _ f w4 Ext _
          exact og_load (P := Try.prog) _ _ w.heap.size _ _ _ rfl rfl rfl (C1.ext hE) Try.underlying28 rfl (by kernel_rfl) rfl
        case o1 =>
          intro f w4 hE hp
          have hS := hE.size
          have q14 : f 0 = .agg #[.bool b, .slice ad n1 cap, .slice ad2 n2 cap2] := tellA hp 0 0 rfl rfl rfl
          change OpGoal _ _ _ f w4 Ext _
          refine og_call (P := Try.prog) _ _ _ #[f 0] Try.func27 (by kernel_rfl) (by kernel_rfl) rfl rfl (by kernel_rfl) ?_
          rw [q14]
          refine (rqcopy3_calls _ b xs ys _ (Hv.out.ext (E3.trans hE)) (by omega) (by omega)).mono ?_
          rintro e w' ⟨v', rfl, h1, h2⟩
          exact ⟨v', rfl, h2, h1.mono hS⟩
        case o2 =>
          intro f w4 hE hp
          have hS := hE.size
          change OpGoal _ _ _ f w4 Ext _
          exact og_load (P := Try.prog) _ _ (w.heap.size + 1) _ _ _ rfl rfl rfl (C2.ext hE) Try.underlying28 rfl (by kernel_rfl) rfl
        case o3 =>
          intro f w4 hE hp
          have hS := hE.size
          have q16 : f 2 = .agg #[.bool c, .slice bd n3 dap, .slice bd2 n4 dap2] := tellA hp 0 2 rfl rfl rfl
          change OpGoal _ _ _ f w4 Ext _
          refine og_call (P := Try.prog) _ _ _ #[f 2] Try.func27 (by kernel_rfl) (by kernel_rfl) rfl rfl (by kernel_rfl) ?_
          rw [q16]
          refine (rqcopy3_calls _ c xs2 ys2 _ (Hu.out.ext (E3.trans hE)) (by omega) (by omega)).mono ?_
          rintro e w' ⟨v', rfl, h1, h2⟩
          exact ⟨v', rfl, h2, h1.mono hS⟩
        case o4 =>
          intro f w4 hE hp
          have hS := hE.size
          have q15 := tellA hp 0 1 rfl rfl rfl
          have q17 := tellA hp 1 3 rfl rfl rfl
          change OpGoal _ _ _ f w4 Ext _
          refine og_call (P := Try.prog) _ _ _ #[f 1, f 3] Try.func38 (by kernel_rfl) (by kernel_rfl) rfl rfl (by kernel_rfl) ?_
          refine (rdiv_calls _ _ x y 12 12 _ (RX.out _ _ (FrR.raw q15)) (RY.out _ _ (FrR.raw q17)) Hy0.out (by omega)).mono ?_
          rintro e w' ⟨v', rfl, h1, _, h2⟩
          exact ⟨_, rfl, h2, v', rfl, h1.mono hS⟩
        case o5 =>
          intro f w4 hE hp
          have hS := hE.size
          have q18 := tellA hp 0 4 rfl rfl rfl
          change OpGoal _ _ _ f w4 Ext _
          exact ⟨_, rfl, Ext.refl _, q18⟩
        case o6 =>
          intro f w4 hE hp
          have hS := hE.size
          have q13 := tellA hp 0 5 rfl rfl rfl
          change OpGoal _ _ _ f w4 Ext _
          obtain ⟨v', hv, hq⟩ := q13
          simp only [OpGoal]
          go_simp
          exact ⟨_, rfl, Ext.refl _, hq⟩
        case o7 =>
          intro f w4 hE hp
          have hS := hE.size
          have q13 := tellA hp 0 5 rfl rfl rfl
          obtain ⟨v', hv, hq⟩ := q13
          simp only [OpGoal]
          go_simp
          exact ⟨_, rfl, Ext.refl _, rfl⟩
        case o8 =>
          intro f w4 hE hp
          have hS := hE.size
          change OpGoal _ _ _ f w4 (fun a b => b = a.alloc _) _
          exact og_alloc (P := Try.prog) _ _ (.agg #[.bool false, .slice none 0 0, .slice none 0 0]) rfl rfl (by kernel_rfl) rfl
        case o9 =>
          intro f w4 hE hp
          have hS := hE.size
          have q19 := tellA hp 1 6 rfl rfl rfl
          intro g old hfa hSg hbx hsz hno
          change OpGoal _ _ _ f w4 (Chg g) _
          obtain ⟨cells, hv, hcs, hc1, hcn⟩ := FrQ.parts q19
          exact og_storeA (P := Try.prog) (PA.frQ (x / y)) 3 _ _ _ g _ old cells rfl rfl hfa hv hbx (by rw [hcs]; kernel_rfl) hsz hcs hc1 hSg (show 28 ≠ 79 by decide) (show 28 ≠ 3 by decide) hno hcn (hv ▸ q19)
        case o10 =>
          intro f w4 hE hp
          have hS := hE.size
          have q20 : f 7 = .int .i64 0 := tellA hp 0 7 rfl rfl rfl
          change OpGoal _ _ _ f w4 Ext _
          simp only [OpGoal]
          go_simp
          exact ⟨_, rfl, Ext.refl _, rfl⟩
      · intro f w4 hE hp hal
        obtain ⟨ga5, ca5, fa5, la5, ba5, na5, pa5⟩ := hal ⟨8, 28, 3, #[.bool false, .slice none 0 0, .slice none 0 0]⟩ (by simp) (by decide)
        dsimp only at fa5 la5 ba5 na5
        have za5 := pa5 ⟨9, ⟨8, 28, 3, #[.bool false, .slice none 0 0, .slice none 0 0]⟩, PA.frQ (x / y)⟩ (by simp) (by show 9 < 11; decide) rfl rfl
        clear pa5
        have q6 : f 10 = .int .i64 0 := endA hp 10 (by decide) rfl rfl
        try simp only [q6]
        clear hp hal
        obtain ⟨b9, ad9, l9, cap9, bd9, m9, dap9, hv9, q9⟩ := FrQ.opn za5
        cases hv9
        have D2 := C2.ext hE
        have hd0 := D2.cell 0
        have hd1 := D2.cell 1
        have hd2 := D2.cell 2
        go_wp2_with fail
        refine (rqof3_calls _ _ _ _ ((Hu.out.ext (E3.trans hE)).isQ dx2 dy2 (by (first | rw [LIM_eq] | rw [LIM_eqT]); omega) (by (first | rw [LIM_eq] | rw [LIM_eqT]); omega)) (by have := SY.out.1; omega) (by have := SY.out.2.1; omega)).mono ?_
        rw [show mkRat (rawN c xs2) (rawD ys2) = y from Hy.out.symm]
        rintro e w5 ⟨v5, rfl, q5, e5⟩
        obtain ⟨b5, ad5, l5, cap5, bd5, m5, dap5, rfl, q5⟩ := q5.opn
        obtain ⟨w6, hw6, e6, b6, s6⟩ := alloc1 w5 #[.bool b5, .slice ad5 l5 cap5, .slice bd5 m5 dap5] 40
        have hk0 := b6.cell 0
        have hk1 := b6.cell 1
        have hk2 := b6.cell 2
        rw [hw6] at hk0 hk1 hk2
        go_wp2_with fail
        rw [← hw6]
        clear hk0 hk1 hk2 hd0 hd1 hd2
        refine (rqsign3_calls _ y _ (q5.cq.ext e6)).mono ?_
        rintro e w7 ⟨rfl, e7⟩
        have F57 := (e5.trans e6).trans e7
        have D5 := ba5.ext F57
        have D1 := (C1.ext hE).ext F57
        have D7 := b6.ext e7
        have Q5 := q5.cq.ext (e6.trans e7)
        have Q9 := q9.ext F57
        have E7 := (E3.trans hE).trans F57
        go_wp2_with fail
        refine wp_region_puts [] [PP.val (.int .i64 0), PP.val (.bool true), PP.val (.bool true), PP.val (.agg #[.bool b9, .slice ad9 l9 cap9, .slice bd9 m9 dap9]), PP.val (.agg #[.bool b, .slice ad n1 cap, .slice ad2 n2 cap2]), PP.frQd x, PP.val (.agg #[.bool b5, .slice ad5 l5 cap5, .slice bd5 m5 dap5]), PP.frQd (x / y), PP.frQ (x / y), PP.val (.bool true), PP.val (.bool true), PP.val (.bool true)] [] [0, 1, 2, 3, 4, 5, 6, 7, 8, 9, 10, 11]
          (by kernel_rfl) (by kernel_rfl) (fun f => (by simp only [fillR, fillL, List.setIfInBounds_toArray, List.set_cons_succ, List.set_cons_zero, Nat.reduceAdd]; rfl)) ?_ ?_ ?_ ?_ ?_
        · intro x hx; cases hx
        · intro x hx; cases hx
        · intro x hx; cases hx
        · refine ⟨?o0, ?o1, ?o2, ?o3, ?o4, ?o5, ?o6, ?o7, ?o8, ?o9, ?o10, ?o11, trivial⟩
          case o0 =>
            intro f w8 hG hp hl
            have hE : Ext w7 w8 := hG
            have hS := hE.size
            simp only [OpGoal]
            go_simp
            exact ⟨_, rfl, Ext.refl _, rfl⟩
          case o1 =>
            intro f w8 hG hp hl
            have hE : Ext w7 w8 := hG
            have hS := hE.size
            have q33 : f 0 = .int .i64 0 := tellV hp 0 0 rfl rfl (fun h => by cases h)
            simp only [OpGoal]
            go_simp
            exact ⟨_, rfl, Ext.refl _, rfl⟩
          case o2 =>
            intro f w8 hG hp hl
            have hE : Ext w7 w8 := hG
            have hS := hE.size
            have q34 : f 1 = .bool true := tellV hp 0 1 rfl rfl (fun h => by cases h)
            simp only [OpGoal]
            go_simp
            exact ⟨_, rfl, Ext.refl _, rfl⟩
          case o3 =>
            intro f w8 hG hp hl
            have hE : Ext w7 w8 := hG
            have hS := hE.size
            have qg : f 2 = .bool true := tellV hp 0 2 rfl rfl (fun h => by cases h)
            change OpGoal _ _ _ f w8 Ext _
            refine og_guard (j := 2) (want := true) rfl qg ?_
            change OpGoal _ _ _ f w8 Ext _
            exact og_load (P := Try.prog) _ _ ga5 _ _ _ rfl rfl rfl (D5.ext hE) Try.underlying28 rfl (by kernel_rfl) rfl
          case o4 =>
            intro f w8 hG hp hl
            have hE : Ext w7 w8 := hG
            have hS := hE.size
            have qg : f 2 = .bool true := tellV hp 0 2 rfl rfl (fun h => by cases h)
            change OpGoal _ _ _ f w8 Ext _
            refine og_guard (j := 2) (want := true) rfl qg ?_
            change OpGoal _ _ _ f w8 Ext _
            exact og_load (P := Try.prog) _ _ w.heap.size _ _ _ rfl rfl rfl (D1.ext hE) Try.underlying28 rfl (by kernel_rfl) rfl
          case o5 =>
            intro f w8 hG hp hl
            have hE : Ext w7 w8 := hG
            have hS := hE.size
            have q37 : f 4 = .agg #[.bool b, .slice ad n1 cap, .slice ad2 n2 cap2] := tellV hp 0 4 rfl rfl (fun h => by cases h)
            have qg : f 2 = .bool true := tellV hp 1 2 rfl rfl (fun h => by cases h)
            change OpGoal _ _ _ f w8 Ext _
            refine og_guard (j := 2) (want := true) rfl qg ?_
            change OpGoal _ _ _ f w8 Ext _
            refine og_call (P := Try.prog) _ _ _ #[f 4] Try.func28 (by kernel_rfl) (by kernel_rfl) rfl rfl (by kernel_rfl) ?_
            rw [q37]
            refine (rqof3_calls _ _ _ _ ((Hv.out.ext (E7.trans hE)).isQ dx dy (by (first | rw [LIM_eq] | rw [LIM_eqT]); omega) (by (first | rw [LIM_eq] | rw [LIM_eqT]); omega)) (by have := SX.out.1; omega) (by have := SX.out.2.1; omega)).mono ?_
            rw [show mkRat (rawN b xs) (rawD ys) = x from Hx.out.symm]
            rintro e w' ⟨v', rfl, h1, h2⟩
            exact ⟨v', rfl, h2, h1.mono hS⟩
          case o6 =>
            intro f w8 hG hp hl
            have hE : Ext w7 w8 := hG
            have hS := hE.size
            have qg : f 2 = .bool true := tellV hp 0 2 rfl rfl (fun h => by cases h)
            change OpGoal _ _ _ f w8 Ext _
            refine og_guard (j := 2) (want := true) rfl qg ?_
            change OpGoal _ _ _ f w8 Ext _
            exact og_load (P := Try.prog) _ _ w5.heap.size _ _ _ rfl rfl rfl (D7.ext hE) Try.underlying40 rfl (by kernel_rfl) rfl
          case o7 =>
            intro f w8 hG hp hl
            have hE : Ext w7 w8 := hG
            have hS := hE.size
            have q38 := tellV hp 0 5 rfl rfl (fun _ => hE)
            have q39 : f 6 = .agg #[.bool b5, .slice ad5 l5 cap5, .slice bd5 m5 dap5] := tellV hp 1 6 rfl rfl (fun h => by cases h)
            have qg : f 2 = .bool true := tellV hp 3 2 rfl rfl (fun h => by cases h)
            change OpGoal _ _ _ f w8 Ext _
            refine og_guard (j := 2) (want := true) rfl qg ?_
            change OpGoal _ _ _ f w8 Ext _
            refine og_call (P := Try.prog) _ _ _ #[f 5, f 6] Try.func40 (by kernel_rfl) (by kernel_rfl) rfl rfl (by kernel_rfl) ?_
            rw [q39]
            refine (rqdiv3_calls _ _ x y 60 60 _ q38.cq (Q5.ext hE) Hy0.out hxD hyD (by omega)).mono ?_
            rintro e w' ⟨v', rfl, h1, h2⟩
            exact ⟨v', rfl, h2, h1.mono hS⟩
          case o8 =>
            intro f w8 hG hp hl
            have hE : Ext w7 w8 := hG
            have hS := hE.size
            have q40 := tellV hp 0 7 rfl rfl (fun _ => hE)
            have qg : f 2 = .bool true := tellV hp 2 2 rfl rfl (fun h => by cases h)
            change OpGoal _ _ _ f w8 Ext _
            refine og_guard (j := 2) (want := true) rfl qg ?_
            change OpGoal _ _ _ f w8 Ext _
            refine og_call (P := Try.prog) _ _ _ #[f 7] Try.func17 (by kernel_rfl) (by kernel_rfl) rfl rfl (by kernel_rfl) ?_
            refine (rqto3_calls _ (x / y) _ q40.cq (by omega)).mono ?_
            rintro e w' ⟨v', rfl, h1, h2⟩
            exact ⟨v', rfl, h2, h1.mono hS⟩
          case o9 =>
            intro f w8 hG hp hl
            have hE : Ext w7 w8 := hG
            have hS := hE.size
            have q36 : f 3 = .agg #[.bool b9, .slice ad9 l9 cap9, .slice bd9 m9 dap9] := tellV hp 0 3 rfl rfl (fun h => by cases h)
            have q41 := tellV hp 1 8 rfl rfl (fun _ => hE)
            have qg : f 2 = .bool true := tellV hp 3 2 rfl rfl (fun h => by cases h)
            change OpGoal _ _ _ f w8 Ext _
            refine og_guard (j := 2) (want := true) rfl qg ?_
            change OpGoal _ _ _ f w8 Ext _
            refine og_call (P := Try.prog) _ _ _ #[f 3, f 8] Try.func16 (by kernel_rfl) (by kernel_rfl) rfl rfl (by kernel_rfl) ?_
            rw [q36]
            refine (same_true _ _ _ _ _ _ (Q9.ext hE) q41).mono ?_
            rintro e w' ⟨rfl, h2⟩
            exact ⟨_, rfl, h2, rfl⟩
          case o10 =>
            intro f w8 hG hp hl
            have hE : Ext w7 w8 := hG
            have hS := hE.size
            have q35 : f 2 = .bool true := tellV hp 0 2 rfl rfl (fun h => by cases h)
            have q42 : f 9 = .bool true := tellV hp 1 9 rfl rfl (fun h => by cases h)
            simp only [OpGoal]
            go_simp
            exact ⟨_, rfl, Ext.refl _, rfl⟩
          case o11 =>
            intro f w8 hG hp hl
            have hE : Ext w7 w8 := hG
            have hS := hE.size
            have q43 : f 10 = .bool true := tellV hp 0 10 rfl rfl (fun h => by cases h)
            simp only [OpGoal]
            go_simp
            exact ⟨_, rfl, Ext.refl _, rfl⟩
        · intro f w8 hG hp
          have hE : Ext w7 w8 := ChgS.nil hG
          have q4 : f 11 = .bool true := endV hp 11 (by decide) rfl (fun h => by cases h)
          try simp only [q4]
          clear hp
          go_wp2
          go_ret
          exact ⟨rfl, E7.trans hE⟩
end Go.Proofs.Ytnefipinicfegaa

/-
  The law RatRounds returns true, whatever its fraction is.
-/
namespace Go.Proofs.Ytnefipinicfegaa
open Go.RowKit
set_option linter.unusedVariables false
set_option linter.unusedSimpArgs false

set_option maxRecDepth 100000 in
set_option maxHeartbeats 1000000 in
theorem FrZ.opn {B0 : Nat} {w : World} {v : Value} {z : Int} (h : FrZ B0 w v z) : ∃ b ad l cap, v = .agg #[.bool b, .slice ad l cap] ∧ FrZ B0 w (.agg #[.bool b, .slice ad l cap]) z := by
  have h' := h
  obtain ⟨s, rfl, hn⟩ := h
  obtain ⟨ad, cap, rfl⟩ := hn.slice
  exact ⟨_, _, _, _, rfl, h'⟩
set_option maxRecDepth 100000 in
set_option maxHeartbeats 1000000 in
theorem FrR.opn {B0 : Nat} {w : World} {v : Value} {b : Bool} {xs ys : List Nat} (h : FrR B0 w v b xs ys) : ∃ ad l cap ad2 l2 cap2, v = .agg #[.bool b, .slice ad l cap, .slice ad2 l2 cap2] ∧ FrR B0 w (.agg #[.bool b, .slice ad l cap, .slice ad2 l2 cap2]) b xs ys := by
  have h' := h
  obtain ⟨ad, cap, ad2, cap2, rfl⟩ := h.raw.opn
  exact ⟨_, _, _, _, _, _, rfl, h'⟩
set_option maxRecDepth 100000 in
set_option maxHeartbeats 1000000 in
theorem mkRat_one (z : Int) : mkRat z 1 = (z : Rat) := by
  have h := Rat.mkRat_self (z : Rat)
  rwa [Rat.num_intCast, Rat.den_intCast] at h
set_option maxRecDepth 100000 in
set_option maxHeartbeats 1000000 in
theorem whole_den (x : Rat) : decide (x = (x.floor : Rat)) = decide (x.den = 1) := by
  have h : x = (x.floor : Rat) ↔ x.den = 1 := by
    constructor
    · intro h
      rw [h]
      exact Rat.den_intCast _
    · intro h
      have hx := Rat.mkRat_self x
      rw [h, mkRat_one] at hx
      have hf : x.floor = x.num := by
        have := mkRat_floor x.num 1 (by omega)
        rw [mkRat_one, hx] at this
        rw [this]
        omega
      rw [hf]
      exact hx.symm
  simp only [h]
set_option maxRecDepth 100000 in
set_option maxHeartbeats 1000000 in
theorem szD_int (z : Int) : szD (z : Rat) ≤ max (szT z) 1 := by
  have h := szD_mkRat z 1 (by omega)
  rw [mkRat_one] at h
  have : sz TK 1 ≤ 1 := by
    refine dg_len_le TK_gt ?_
    rw [TK_eq]
    decide
  unfold szD
  omega
set_option maxRecDepth 100000 in
set_option maxHeartbeats 1000000 in
theorem szT_floor (q : Rat) : szT q.floor ≤ szD q + 1 := by
  rw [Rat.floor_def]
  have h : (q.num / (q.den : Int)).natAbs ≤ q.num.natAbs := Int.natAbs_ediv_le_natAbs _ _
  exact Nat.le_trans (dg_len_mono TK_gt h) (by unfold szD szT sz at *; omega)
set_option maxRecDepth 100000 in
set_option maxHeartbeats 1000000 in
theorem szT_ceil (q : Rat) : szT q.ceil ≤ szD q + 1 := by
  rw [Rat.ceil_eq_neg_floor_neg q, szT_neg, ← szD_neg]
  exact szT_floor _

set_option maxRecDepth 100000 in
set_option maxHeartbeats 4000000 in
theorem ratRounds_calls (v : Value) (b : Bool) (xs ys : List Nat) (w : World) (hv : RawQ w v b xs ys) (dx : Dig W xs) (dy : Dig W ys) (hl1 : xs.length + ys.length ≤ 9223372036854775807) :
    Calls Try.prog 5 #[v] w fun e w' => e = .returned (.bool true) ∧ Ext w w' := by
  have Hv := Lib.hid hv
  obtain ⟨ad, n1, cap, ad2, n2, cap2, hn1, hn2, rfl⟩ := hv.opn2
  have Hgs := Lib.hid (great_split (n1 + n2) (n1 + n2))
  clear hv
  have Hn1 := Lib.hid hn1
  have Hn2 := Lib.hid hn2
  clear hn1 hn2
  go_enter Try.func5, Try.ntmps5
  obtain ⟨w1, hw1, e1, b1, s1⟩ := alloc1 w #[.bool b, .slice ad n1 cap, .slice ad2 n2 cap2] 28
  go_wp2_with fail
  rw [← hw1]
  refine (speaks_calls _).mono ?_
  rintro e w2 ⟨rfl, e2⟩
  have B1 := b1.ext e2
  have E := e1.trans e2
  have hc0 := B1.cell 0
  have hc1 := B1.cell 1
  have hc2 := B1.cell 2
  go_wp2_with fail
  refine (great_calls _ _ b b xs ys xs ys _ (Hv.out.ext E) (Hv.out.ext E) (by have := Hn1.out; have := Hn2.out; omega) (by have := Hn1.out; have := Hn2.out; omega)).mono ?_
  rw [← Hn1.out, ← Hn2.out]
  rintro e w3 ⟨rfl, e3⟩
  rcases Hgs.out with hg | ⟨hg, hk1, _⟩
  · rw [hg]
    go_wp2
    go_ret
    exact ⟨rfl, E.trans e3⟩
  · rw [hg]
    have E3 := E.trans e3
    have C1 := B1.ext e3
    have X1 : xs.length ≤ 12 := by rw [← Hn1.out]; omega
    have X2 : ys.length ≤ 12 := by rw [← Hn2.out]; omega
    have lim : (12 : Nat) ≤ LIM .u64 := by (first | rw [LIM_eq] | rw [LIM_eqT]); omega
    obtain ⟨x, hx⟩ : ∃ x, x = rawR b xs ys := ⟨_, rfl⟩
    have RX := Lib.hid (show ∀ wz vz, RawQ wz vz b xs ys → IsR wz vz x 12 from fun wz vz h => by rw [hx]; exact h.isR dx dy 12 X1 X2 (by omega) lim)
    have SX := Lib.hid (rawR_szD (b := b) dx dy 12 X1 X2 (by omega))
    have Hx := Lib.hid hx
    have hxD : szD x ≤ 60 := by rw [Hx.out]; exact SX.out.2.2
    have hfT := szT_floor x
    have hcT := szT_ceil x
    have hfD := szD_int x.floor
    obtain ⟨bw, hbw⟩ : ∃ bw, bw = decide (x.den = 1) := ⟨_, rfl⟩
    have Hbw1 := Lib.hid ((whole_den x).trans hbw.symm)
    have Hbw2 := Lib.hid hbw.symm
    clear hx hbw hc0 hc1 hc2
    have hc0 := C1.cell 0
    have hc1 := C1.cell 1
    have hc2 := C1.cell 2
    go_wp2_with fail
    refine (rqcopy3_calls _ b xs ys _ (Hv.out.ext E3) (by omega) (by omega)).mono ?_
    rintro e w4 ⟨v4, rfl, q4, e4⟩
    obtain ⟨ad4, l4, cap4, bd4, m4, dap4, rfl, q4⟩ := q4.opn
    obtain ⟨w5, hw5, e5, b5, s5⟩ := alloc1 w4 #[.bool b, .slice ad4 l4 cap4, .slice bd4 m4 dap4] 28
    have C5 := C1.ext (e4.trans e5)
    clear hc0 hc1 hc2
    have hc0 := C5.cell 0
    have hc1 := C5.cell 1
    have hc2 := C5.cell 2
    rw [hw5] at hc0 hc1 hc2
    go_wp2_with fail
    rw [← hw5]
    clear hc0 hc1 hc2
    have E5 := E3.trans (e4.trans e5)
    refine (rqof3_calls _ _ _ _ ((Hv.out.ext E5).isQ dx dy (by (first | rw [LIM_eq] | rw [LIM_eqT]); omega) (by (first | rw [LIM_eq] | rw [LIM_eqT]); omega)) (by have := SX.out.1; omega) (by have := SX.out.2.1; omega)).mono ?_
    rw [show mkRat (rawN b xs) (rawD ys) = x from Hx.out.symm]
    rintro e w6 ⟨v6, rfl, q6, e6⟩
    obtain ⟨b6, ad6, l6, cap6, bd6, m6, dap6, rfl, q6⟩ := q6.opn
    obtain ⟨w7, hw7, e7, b7, s7⟩ := alloc1 w6 #[.bool b6, .slice ad6 l6 cap6, .slice bd6 m6 dap6] 40
    have F7 := e6.trans e7
    have C7 := C5.ext F7
    have D7 := b5.ext F7
    have Q4 := q4.ext (e5.trans F7)
    have Q6 := q6.ext e7
    have E7 := E5.trans F7
    go_wp2_with fail
    rw [← hw7]
    refine wp_region_als [⟨6, 24, 2, #[.bool false, .slice none 0 0]⟩, ⟨7, 24, 2, #[.bool false, .slice none 0 0]⟩, ⟨8, 28, 3, #[.bool false, .slice none 0 0, .slice none 0 0]⟩] [⟨9, ⟨6, 24, 2, #[.bool false, .slice none 0 0]⟩, PA.frZ x.floor⟩, ⟨10, ⟨7, 24, 2, #[.bool false, .slice none 0 0]⟩, PA.frZ x.ceil⟩, ⟨11, ⟨8, 28, 3, #[.bool false, .slice none 0 0, .slice none 0 0]⟩, PA.frQ (x - (x.floor : Rat))⟩] [PA.val (.agg #[.bool b, .slice ad4 l4 cap4, .slice bd4 m4 dap4]), PA.frZ x.floor, PA.val (.agg #[.bool b, .slice ad4 l4 cap4, .slice bd4 m4 dap4]), PA.frZ x.ceil, PA.val (.agg #[.bool b, .slice ad4 l4 cap4, .slice bd4 m4 dap4]), PA.frQ (x - (x.floor : Rat)), PA.any, PA.any, PA.any, PA.any, PA.any, PA.any]
      (by kernel_rfl) (by kernel_rfl) (fun f => (by simp only [fillR, fillL, List.setIfInBounds_toArray, List.set_cons_succ, List.set_cons_zero, Nat.reduceAdd]; rfl)) ?_ ?_ ?_ ?_ ?_
    · intro x hx; simp only [List.mem_cons, List.not_mem_nil, or_false] at hx; rcases hx with rfl | rfl | rfl
      · exact ⟨rfl, rfl, by decide, by decide, rfl, noInt2 _ _ _ _⟩
      · exact ⟨rfl, rfl, by decide, by decide, rfl, noInt2 _ _ _ _⟩
      · exact ⟨rfl, rfl, by decide, by decide, rfl, noInt3 _ _ _ _ _ _ _⟩
    · intro x hx; simp only [List.mem_cons, List.not_mem_nil, or_false] at hx; rcases hx with rfl | rfl | rfl <;> exact ⟨rfl, rfl, by simp⟩
    · intro x hx y hy h; simp only [List.mem_cons, List.not_mem_nil, or_false] at hx hy; rcases hx with rfl | rfl | rfl <;> rcases hy with rfl | rfl | rfl
      · exact absurd rfl h
      · show 6 ≠ 7; decide
      · show 6 ≠ 8; decide
      · show 7 ≠ 6; decide
      · exact absurd rfl h
      · show 7 ≠ 8; decide
      · show 8 ≠ 6; decide
      · show 8 ≠ 7; decide
      · exact absurd rfl h
    · refine ⟨?o0, ?o1, ?o2, ?o3, ?o4, ?o5, ?o6, ?o7, ?o8, ?o9, ?o10, ?o11, trivial⟩
      case o0 =>
        intro f w8 hE hp
        have hS := hE.size
        change OpGoal _ _ _ f w8 Ext _
        exact og_load (P := Try.prog) _ _ w4.heap.size _ _ _ rfl rfl rfl (D7.ext hE) Try.underlying28 rfl (by kernel_rfl) rfl
      case o1 =>
        intro f w8 hE hp
        have hS := hE.size
        have q18 : f 0 = .agg #[.bool b, .slice ad4 l4 cap4, .slice bd4 m4 dap4] := tellA hp 0 0 rfl rfl rfl
        change OpGoal _ _ _ f w8 Ext _
        refine og_call (P := Try.prog) _ _ _ #[f 0] Try.func29 (by kernel_rfl) (by kernel_rfl) rfl rfl (by kernel_rfl) ?_
        rw [q18]
        refine (rfloor_calls _ x 12 _ (RX.out _ _ (Q4.ext hE).raw) (by omega)).mono ?_
        rintro e w' ⟨v', rfl, h1, _, h2⟩
        exact ⟨v', rfl, h2, h1.mono hS⟩
      case o2 =>
        intro f w8 hE hp
        have hS := hE.size
        change OpGoal _ _ _ f w8 Ext _
        exact og_load (P := Try.prog) _ _ w4.heap.size _ _ _ rfl rfl rfl (D7.ext hE) Try.underlying28 rfl (by kernel_rfl) rfl
      case o3 =>
        intro f w8 hE hp
        have hS := hE.size
        have q20 : f 2 = .agg #[.bool b, .slice ad4 l4 cap4, .slice bd4 m4 dap4] := tellA hp 0 2 rfl rfl rfl
        change OpGoal _ _ _ f w8 Ext _
        refine og_call (P := Try.prog) _ _ _ #[f 2] Try.func30 (by kernel_rfl) (by kernel_rfl) rfl rfl (by kernel_rfl) ?_
        rw [q20]
        refine (rceil_calls _ x 12 _ (RX.out _ _ (Q4.ext hE).raw) (by omega)).mono ?_
        rintro e w' ⟨v', rfl, h1, _, h2⟩
        exact ⟨v', rfl, h2, h1.mono hS⟩
      case o4 =>
        intro f w8 hE hp
        have hS := hE.size
        change OpGoal _ _ _ f w8 Ext _
        exact og_load (P := Try.prog) _ _ w4.heap.size _ _ _ rfl rfl rfl (D7.ext hE) Try.underlying28 rfl (by kernel_rfl) rfl
      case o5 =>
        intro f w8 hE hp
        have hS := hE.size
        have q22 : f 4 = .agg #[.bool b, .slice ad4 l4 cap4, .slice bd4 m4 dap4] := tellA hp 0 4 rfl rfl rfl
        change OpGoal _ _ _ f w8 Ext _
        refine og_call (P := Try.prog) _ _ _ #[f 4] Try.func31 (by kernel_rfl) (by kernel_rfl) rfl rfl (by kernel_rfl) ?_
        rw [q22]
        refine (rfrac_calls _ x 12 _ (RX.out _ _ (Q4.ext hE).raw) (by omega)).mono ?_
        rintro e w' ⟨v', rfl, h1, _, h2⟩
        exact ⟨v', rfl, h2, h1.mono hS⟩
      case o6 =>
        intro f w8 hE hp
        have hS := hE.size
        change OpGoal _ _ _ f w8 (fun a b => b = a.alloc _) _
        exact og_alloc (P := Try.prog) _ _ (.agg #[.bool false, .slice none 0 0]) rfl rfl (by kernel_rfl) rfl
      case o7 =>
        intro f w8 hE hp
        have hS := hE.size
        change OpGoal _ _ _ f w8 (fun a b => b = a.alloc _) _
        exact og_alloc (P := Try.prog) _ _ (.agg #[.bool false, .slice none 0 0]) rfl rfl (by kernel_rfl) rfl
      case o8 =>
        intro f w8 hE hp
        have hS := hE.size
        change OpGoal _ _ _ f w8 (fun a b => b = a.alloc _) _
        exact og_alloc (P := Try.prog) _ _ (.agg #[.bool false, .slice none 0 0, .slice none 0 0]) rfl rfl (by kernel_rfl) rfl
      case o9 =>
        intro f w8 hE hp
        have hS := hE.size
        have q19 := tellA hp 1 1 rfl rfl rfl
        intro g old hfa hSg hbx hsz hno
        change OpGoal _ _ _ f w8 (Chg g) _
        obtain ⟨cells, hv, hcs, hc1, hcn⟩ := FrZ.parts q19
        exact og_storeA (P := Try.prog) (PA.frZ x.floor) 2 _ _ _ g _ old cells rfl rfl hfa hv hbx (by rw [hcs]; kernel_rfl) hsz hcs hc1 hSg (show 24 ≠ 79 by decide) (show 24 ≠ 3 by decide) hno hcn (hv ▸ q19)
      case o10 =>
        intro f w8 hE hp
        have hS := hE.size
        have q21 := tellA hp 1 3 rfl rfl rfl
        intro g old hfa hSg hbx hsz hno
        change OpGoal _ _ _ f w8 (Chg g) _
        obtain ⟨cells, hv, hcs, hc1, hcn⟩ := FrZ.parts q21
        exact og_storeA (P := Try.prog) (PA.frZ x.ceil) 2 _ _ _ g _ old cells rfl rfl hfa hv hbx (by rw [hcs]; kernel_rfl) hsz hcs hc1 hSg (show 24 ≠ 79 by decide) (show 24 ≠ 3 by decide) hno hcn (hv ▸ q21)
      case o11 =>
        intro f w8 hE hp
        have hS := hE.size
        have q23 := tellA hp 1 5 rfl rfl rfl
        intro g old hfa hSg hbx hsz hno
        change OpGoal _ _ _ f w8 (Chg g) _
        obtain ⟨cells, hv, hcs, hc1, hcn⟩ := FrQ.parts q23
        exact og_storeA (P := Try.prog) (PA.frQ (x - (x.floor : Rat))) 3 _ _ _ g _ old cells rfl rfl hfa hv hbx (by rw [hcs]; kernel_rfl) hsz hcs hc1 hSg (show 28 ≠ 79 by decide) (show 28 ≠ 3 by decide) hno hcn (hv ▸ q23)
    · intro f w8 hE hp hal
      obtain ⟨ga5, ca5, fa5, la5, ba5, na5, pa5⟩ := hal ⟨6, 24, 2, #[.bool false, .slice none 0 0]⟩ (by simp) (by decide)
      dsimp only at fa5 la5 ba5 na5
      have za5 := pa5 ⟨9, ⟨6, 24, 2, #[.bool false, .slice none 0 0]⟩, PA.frZ x.floor⟩ (by simp) (by show 9 < 12; decide) rfl rfl
      clear pa5
      obtain ⟨ga6, ca6, fa6, la6, ba6, na6, pa6⟩ := hal ⟨7, 24, 2, #[.bool false, .slice none 0 0]⟩ (by simp) (by decide)
      dsimp only at fa6 la6 ba6 na6
      have za6 := pa6 ⟨10, ⟨7, 24, 2, #[.bool false, .slice none 0 0]⟩, PA.frZ x.ceil⟩ (by simp) (by show 10 < 12; decide) rfl rfl
      clear pa6
      obtain ⟨ga7, ca7, fa7, la7, ba7, na7, pa7⟩ := hal ⟨8, 28, 3, #[.bool false, .slice none 0 0, .slice none 0 0]⟩ (by simp) (by decide)
      dsimp only at fa7 la7 ba7 na7
      have za7 := pa7 ⟨11, ⟨8, 28, 3, #[.bool false, .slice none 0 0, .slice none 0 0]⟩, PA.frQ (x - (x.floor : Rat))⟩ (by simp) (by show 11 < 12; decide) rfl rfl
      clear pa7
      clear hp hal
      obtain ⟨c5, ad8, l8, cap8, hv5, z5⟩ := FrZ.opn za5
      cases hv5
      obtain ⟨c6, ad9, l9, cap9, hv6, z6⟩ := FrZ.opn za6
      cases hv6
      obtain ⟨c7, ad10, l10, cap10, bd10, m10, dap10, hv7, z7⟩ := FrQ.opn za7
      cases hv7
      have G7 := b7.ext hE
      have Q6' := Q6.cq.ext hE
      have Q4' := Q4.ext hE
      have C8 := C7.ext hE
      have D8 := D7.ext hE
      have E8 := E7.trans hE
      go_wp2_with fail
      refine wp_region_puts [] [PP.val (.agg #[.bool c5, .slice ad8 l8 cap8]), PP.val (.agg #[.bool b6, .slice ad6 l6 cap6, .slice bd6 m6 dap6]), PP.frZd x.floor, PP.frZ x.floor, PP.val (.bool true), PP.val (.bool true), PP.val (.agg #[.bool c6, .slice ad9 l9 cap9]), PP.val (.agg #[.bool b6, .slice ad6 l6 cap6, .slice bd6 m6 dap6]), PP.frZd x.ceil, PP.frZ x.ceil, PP.val (.bool true), PP.val (.bool true), PP.val (.bool true), PP.val (.agg #[.bool c7, .slice ad10 l10 cap10, .slice bd10 m10 dap10]), PP.val (.agg #[.bool b6, .slice ad6 l6 cap6, .slice bd6 m6 dap6]), PP.val (.agg #[.bool b6, .slice ad6 l6 cap6, .slice bd6 m6 dap6]), PP.frZd x.floor, PP.frQd (x.floor : Rat), PP.frQdS (x - (x.floor : Rat)) (60 + 62 + 1), PP.frQ (x - (x.floor : Rat)), PP.val (.bool true), PP.val (.bool true), PP.val (.bool true)] [] [0, 1, 2, 3, 4, 5, 6, 7, 8, 9, 10, 11, 12, 13, 14, 15, 16, 17, 18, 19, 20, 21, 22]
        (by kernel_rfl) (by kernel_rfl) (fun f => (by simp only [fillR, fillL, List.setIfInBounds_toArray, List.set_cons_succ, List.set_cons_zero, Nat.reduceAdd]; rfl)) ?_ ?_ ?_ ?_ ?_
      · intro x hx; cases hx
      · intro x hx; cases hx
      · intro x hx; cases hx
      · refine ⟨?o0, ?o1, ?o2, ?o3, ?o4, ?o5, ?o6, ?o7, ?o8, ?o9, ?o10, ?o11, ?o12, ?o13, ?o14, ?o15, ?o16, ?o17, ?o18, ?o19, ?o20, ?o21, ?o22, trivial⟩
        case o0 =>
          intro f w9 hG hp hl
          have hE : Ext w8 w9 := hG
          have hS := hE.size
          change OpGoal _ _ _ f w9 Ext _
          exact og_load (P := Try.prog) _ _ ga5 _ _ _ rfl rfl rfl (ba5.ext hE) Try.underlying24 rfl (by kernel_rfl) rfl
        case o1 =>
          intro f w9 hG hp hl
          have hE : Ext w8 w9 := hG
          have hS := hE.size
          change OpGoal _ _ _ f w9 Ext _
          exact og_load (P := Try.prog) _ _ w6.heap.size _ _ _ rfl rfl rfl (G7.ext hE) Try.underlying40 rfl (by kernel_rfl) rfl
        case o2 =>
          intro f w9 hG hp hl
          have hE : Ext w8 w9 := hG
          have hS := hE.size
          have q25 : f 1 = .agg #[.bool b6, .slice ad6 l6 cap6, .slice bd6 m6 dap6] := tellV hp 0 1 rfl rfl (fun h => by cases h)
          change OpGoal _ _ _ f w9 Ext _
          refine og_call (P := Try.prog) _ _ _ #[f 1] Try.func33 (by kernel_rfl) (by kernel_rfl) rfl rfl (by kernel_rfl) ?_
          rw [q25]
          refine (rqfloor3_calls _ x _ (Q6'.ext hE) (by omega)).mono ?_
          rintro e w' ⟨v', rfl, h1, _, h2⟩
          exact ⟨v', rfl, h2, h1.mono hS⟩
        case o3 =>
          intro f w9 hG hp hl
          have hE : Ext w8 w9 := hG
          have hS := hE.size
          have q26 := tellV hp 0 2 rfl rfl (fun _ => hE)
          change OpGoal _ _ _ f w9 Ext _
          refine og_call (P := Try.prog) _ _ _ #[f 2] Try.func32 (by kernel_rfl) (by kernel_rfl) rfl rfl (by kernel_rfl) ?_
          refine (zto2_calls _ x.floor _ q26.cz (by omega)).mono ?_
          rintro e w' ⟨v', rfl, h1, h2⟩
          exact ⟨v', rfl, h2, h1.mono hS⟩
        case o4 =>
          intro f w9 hG hp hl
          have hE : Ext w8 w9 := hG
          have hS := hE.size
          have q24 : f 0 = .agg #[.bool c5, .slice ad8 l8 cap8] := tellV hp 0 0 rfl rfl (fun h => by cases h)
          have q27 := tellV hp 1 3 rfl rfl (fun _ => hE)
          change OpGoal _ _ _ f w9 Ext _
          refine og_call (P := Try.prog) _ _ _ #[f 0, f 3] Try.func19 (by kernel_rfl) (by kernel_rfl) rfl rfl (by kernel_rfl) ?_
          rw [q24]
          refine (zsame_true _ _ _ _ _ _ (z5.ext hE) q27).mono ?_
          rintro e w' ⟨rfl, h2⟩
          exact ⟨_, rfl, h2, rfl⟩
        case o5 =>
          intro f w9 hG hp hl
          have hE : Ext w8 w9 := hG
          have hS := hE.size
          have q28 : f 4 = .bool true := tellV hp 0 4 rfl rfl (fun h => by cases h)
          simp only [OpGoal]
          go_simp
          exact ⟨_, rfl, Ext.refl _, rfl⟩
        case o6 =>
          intro f w9 hG hp hl
          have hE : Ext w8 w9 := hG
          have hS := hE.size
          have qg : f 5 = .bool true := tellV hp 0 5 rfl rfl (fun h => by cases h)
          change OpGoal _ _ _ f w9 Ext _
          refine og_guard (j := 5) (want := true) rfl qg ?_
          change OpGoal _ _ _ f w9 Ext _
          exact og_load (P := Try.prog) _ _ ga6 _ _ _ rfl rfl rfl (ba6.ext hE) Try.underlying24 rfl (by kernel_rfl) rfl
        case o7 =>
          intro f w9 hG hp hl
          have hE : Ext w8 w9 := hG
          have hS := hE.size
          have qg : f 5 = .bool true := tellV hp 0 5 rfl rfl (fun h => by cases h)
          change OpGoal _ _ _ f w9 Ext _
          refine og_guard (j := 5) (want := true) rfl qg ?_
          change OpGoal _ _ _ f w9 Ext _
          exact og_load (P := Try.prog) _ _ w6.heap.size _ _ _ rfl rfl rfl (G7.ext hE) Try.underlying40 rfl (by kernel_rfl) rfl
        case o8 =>
          intro f w9 hG hp hl
          have hE : Ext w8 w9 := hG
          have hS := hE.size
          have q31 : f 7 = .agg #[.bool b6, .slice ad6 l6 cap6, .slice bd6 m6 dap6] := tellV hp 0 7 rfl rfl (fun h => by cases h)
          have qg : f 5 = .bool true := tellV hp 1 5 rfl rfl (fun h => by cases h)
          change OpGoal _ _ _ f w9 Ext _
          refine og_guard (j := 5) (want := true) rfl qg ?_
          change OpGoal _ _ _ f w9 Ext _
          refine og_call (P := Try.prog) _ _ _ #[f 7] Try.func34 (by kernel_rfl) (by kernel_rfl) rfl rfl (by kernel_rfl) ?_
          rw [q31]
          refine (rqceil3_calls _ x _ (Q6'.ext hE) (by omega)).mono ?_
          rintro e w' ⟨v', rfl, h1, _, h2⟩
          exact ⟨v', rfl, h2, h1.mono hS⟩
        case o9 =>
          intro f w9 hG hp hl
          have hE : Ext w8 w9 := hG
          have hS := hE.size
          have q32 := tellV hp 0 8 rfl rfl (fun _ => hE)
          have qg : f 5 = .bool true := tellV hp 2 5 rfl rfl (fun h => by cases h)
          change OpGoal _ _ _ f w9 Ext _
          refine og_guard (j := 5) (want := true) rfl qg ?_
          change OpGoal _ _ _ f w9 Ext _
          refine og_call (P := Try.prog) _ _ _ #[f 8] Try.func32 (by kernel_rfl) (by kernel_rfl) rfl rfl (by kernel_rfl) ?_
          refine (zto2_calls _ x.ceil _ q32.cz (by omega)).mono ?_
          rintro e w' ⟨v', rfl, h1, h2⟩
          exact ⟨v', rfl, h2, h1.mono hS⟩
        case o10 =>
          intro f w9 hG hp hl
          have hE : Ext w8 w9 := hG
          have hS := hE.size
          have q30 : f 6 = .agg #[.bool c6, .slice ad9 l9 cap9] := tellV hp 0 6 rfl rfl (fun h => by cases h)
          have q33 := tellV hp 1 9 rfl rfl (fun _ => hE)
          have qg : f 5 = .bool true := tellV hp 3 5 rfl rfl (fun h => by cases h)
          change OpGoal _ _ _ f w9 Ext _
          refine og_guard (j := 5) (want := true) rfl qg ?_
          change OpGoal _ _ _ f w9 Ext _
          refine og_call (P := Try.prog) _ _ _ #[f 6, f 9] Try.func19 (by kernel_rfl) (by kernel_rfl) rfl rfl (by kernel_rfl) ?_
          rw [q30]
          refine (zsame_true _ _ _ _ _ _ (z6.ext hE) q33).mono ?_
          rintro e w' ⟨rfl, h2⟩
          exact ⟨_, rfl, h2, rfl⟩
        case o11 =>
          intro f w9 hG hp hl
          have hE : Ext w8 w9 := hG
          have hS := hE.size
          have q29 : f 5 = .bool true := tellV hp 0 5 rfl rfl (fun h => by cases h)
          have q34 : f 10 = .bool true := tellV hp 1 10 rfl rfl (fun h => by cases h)
          simp only [OpGoal]
          go_simp
          exact ⟨_, rfl, Ext.refl _, rfl⟩
        case o12 =>
          intro f w9 hG hp hl
          have hE : Ext w8 w9 := hG
          have hS := hE.size
          have q35 : f 11 = .bool true := tellV hp 0 11 rfl rfl (fun h => by cases h)
          simp only [OpGoal]
          go_simp
          exact ⟨_, rfl, Ext.refl _, rfl⟩
        case o13 =>
          intro f w9 hG hp hl
          have hE : Ext w8 w9 := hG
          have hS := hE.size
          have qg : f 12 = .bool true := tellV hp 0 12 rfl rfl (fun h => by cases h)
          change OpGoal _ _ _ f w9 Ext _
          refine og_guard (j := 12) (want := true) rfl qg ?_
          change OpGoal _ _ _ f w9 Ext _
          exact og_load (P := Try.prog) _ _ ga7 _ _ _ rfl rfl rfl (ba7.ext hE) Try.underlying28 rfl (by kernel_rfl) rfl
        case o14 =>
          intro f w9 hG hp hl
          have hE : Ext w8 w9 := hG
          have hS := hE.size
          have qg : f 12 = .bool true := tellV hp 0 12 rfl rfl (fun h => by cases h)
          change OpGoal _ _ _ f w9 Ext _
          refine og_guard (j := 12) (want := true) rfl qg ?_
          change OpGoal _ _ _ f w9 Ext _
          exact og_load (P := Try.prog) _ _ w6.heap.size _ _ _ rfl rfl rfl (G7.ext hE) Try.underlying40 rfl (by kernel_rfl) rfl
        case o15 =>
          intro f w9 hG hp hl
          have hE : Ext w8 w9 := hG
          have hS := hE.size
          have qg : f 12 = .bool true := tellV hp 0 12 rfl rfl (fun h => by cases h)
          change OpGoal _ _ _ f w9 Ext _
          refine og_guard (j := 12) (want := true) rfl qg ?_
          change OpGoal _ _ _ f w9 Ext _
          exact og_load (P := Try.prog) _ _ w6.heap.size _ _ _ rfl rfl rfl (G7.ext hE) Try.underlying40 rfl (by kernel_rfl) rfl
        case o16 =>
          intro f w9 hG hp hl
          have hE : Ext w8 w9 := hG
          have hS := hE.size
          have q39 : f 15 = .agg #[.bool b6, .slice ad6 l6 cap6, .slice bd6 m6 dap6] := tellV hp 0 15 rfl rfl (fun h => by cases h)
          have qg : f 12 = .bool true := tellV hp 1 12 rfl rfl (fun h => by cases h)
          change OpGoal _ _ _ f w9 Ext _
          refine og_guard (j := 12) (want := true) rfl qg ?_
          change OpGoal _ _ _ f w9 Ext _
          refine og_call (P := Try.prog) _ _ _ #[f 15] Try.func33 (by kernel_rfl) (by kernel_rfl) rfl rfl (by kernel_rfl) ?_
          rw [q39]
          refine (rqfloor3_calls _ x _ (Q6'.ext hE) (by omega)).mono ?_
          rintro e w' ⟨v', rfl, h1, _, h2⟩
          exact ⟨v', rfl, h2, h1.mono hS⟩
        case o17 =>
          intro f w9 hG hp hl
          have hE : Ext w8 w9 := hG
          have hS := hE.size
          have q40 := tellV hp 0 16 rfl rfl (fun _ => hE)
          have qg : f 12 = .bool true := tellV hp 2 12 rfl rfl (fun h => by cases h)
          change OpGoal _ _ _ f w9 Ext _
          refine og_guard (j := 12) (want := true) rfl qg ?_
          change OpGoal _ _ _ f w9 Ext _
          refine og_call (P := Try.prog) _ _ _ #[f 16] Try.func18 (by kernel_rfl) (by kernel_rfl) rfl rfl (by kernel_rfl) ?_
          refine (rqwhole3_calls _ x.floor _ q40.cz (by omega)).mono ?_
          rintro e w' ⟨v', rfl, h1, h2⟩
          exact ⟨v', rfl, h2, h1.mono hS⟩
        case o18 =>
          intro f w9 hG hp hl
          have hE : Ext w8 w9 := hG
          have hS := hE.size
          have q38 : f 14 = .agg #[.bool b6, .slice ad6 l6 cap6, .slice bd6 m6 dap6] := tellV hp 0 14 rfl rfl (fun h => by cases h)
          have q41 := tellV hp 1 17 rfl rfl (fun _ => hE)
          have qg : f 12 = .bool true := tellV hp 3 12 rfl rfl (fun h => by cases h)
          change OpGoal _ _ _ f w9 Ext _
          refine og_guard (j := 12) (want := true) rfl qg ?_
          change OpGoal _ _ _ f w9 Ext _
          refine og_call (P := Try.prog) _ _ _ #[f 14, f 17] Try.func35 (by kernel_rfl) (by kernel_rfl) rfl rfl (by kernel_rfl) ?_
          rw [q38]
          refine (rqsub3_calls _ _ x (x.floor : Rat) 60 62 _ (Q6'.ext hE) q41.cq hxD (by omega) (by omega)).mono ?_
          rintro e w' ⟨v', rfl, h1, h3, h2⟩
          exact ⟨v', rfl, h2, h1.mono hS, h3⟩
        case o19 =>
          intro f w9 hG hp hl
          have hE : Ext w8 w9 := hG
          have hS := hE.size
          have q42 := tellV hp 0 18 rfl rfl (fun _ => hE)
          have qg : f 12 = .bool true := tellV hp 2 12 rfl rfl (fun h => by cases h)
          change OpGoal _ _ _ f w9 Ext _
          refine og_guard (j := 12) (want := true) rfl qg ?_
          change OpGoal _ _ _ f w9 Ext _
          refine og_call (P := Try.prog) _ _ _ #[f 18] Try.func17 (by kernel_rfl) (by kernel_rfl) rfl rfl (by kernel_rfl) ?_
          refine (rqto3_calls _ _ _ q42.1.cq (by have := q42.2; omega)).mono ?_
          rintro e w' ⟨v', rfl, h1, h2⟩
          exact ⟨v', rfl, h2, h1.mono hS⟩
        case o20 =>
          intro f w9 hG hp hl
          have hE : Ext w8 w9 := hG
          have hS := hE.size
          have q37 : f 13 = .agg #[.bool c7, .slice ad10 l10 cap10, .slice bd10 m10 dap10] := tellV hp 0 13 rfl rfl (fun h => by cases h)
          have q43 := tellV hp 1 19 rfl rfl (fun _ => hE)
          have qg : f 12 = .bool true := tellV hp 3 12 rfl rfl (fun h => by cases h)
          change OpGoal _ _ _ f w9 Ext _
          refine og_guard (j := 12) (want := true) rfl qg ?_
          change OpGoal _ _ _ f w9 Ext _
          refine og_call (P := Try.prog) _ _ _ #[f 13, f 19] Try.func16 (by kernel_rfl) (by kernel_rfl) rfl rfl (by kernel_rfl) ?_
          rw [q37]
          refine (same_true _ _ _ _ _ _ (z7.ext hE) q43).mono ?_
          rintro e w' ⟨rfl, h2⟩
          exact ⟨_, rfl, h2, rfl⟩
        case o21 =>
          intro f w9 hG hp hl
          have hE : Ext w8 w9 := hG
          have hS := hE.size
          have q36 : f 12 = .bool true := tellV hp 0 12 rfl rfl (fun h => by cases h)
          have q44 : f 20 = .bool true := tellV hp 1 20 rfl rfl (fun h => by cases h)
          simp only [OpGoal]
          go_simp
          exact ⟨_, rfl, Ext.refl _, rfl⟩
        case o22 =>
          intro f w9 hG hp hl
          have hE : Ext w8 w9 := hG
          have hS := hE.size
          have q45 : f 21 = .bool true := tellV hp 0 21 rfl rfl (fun h => by cases h)
          simp only [OpGoal]
          go_simp
          exact ⟨_, rfl, Ext.refl _, rfl⟩
      · intro f w9 hG hp
        have hE : Ext w8 w9 := ChgS.nil hG
        have q8 : f 22 = .bool true := endV hp 22 (by decide) rfl (fun h => by cases h)
        try simp only [q8]
        clear hp
        have D9 := D8.ext hE
        have C9 := C8.ext hE
        have G9 := G7.ext hE
        have Q6c := Q6'.ext hE
        have Q4c := Q4'.ext hE
        have E9 := E8.trans hE
        go_wp2_with fail
        refine wp_region_puts [] [PP.val (.bool true), PP.val (.bool true), PP.val (.agg #[.bool b, .slice ad4 l4 cap4, .slice bd4 m4 dap4]), PP.val (.bool bw), PP.val (.agg #[.bool b6, .slice ad6 l6 cap6, .slice bd6 m6 dap6]), PP.val (.bool bw), PP.val (.bool true), PP.val (.bool true), PP.val (.bool true), PP.val (.agg #[.bool b, .slice ad4 l4 cap4, .slice bd4 m4 dap4]), PP.val (.agg #[.bool b, .slice ad n1 cap, .slice ad2 n2 cap2]), PP.val (.bool true), PP.val (.bool true), PP.val (.bool true)] [] [0, 1, 2, 3, 4, 5, 6, 7, 8, 9, 10, 11, 12, 13]
          (by kernel_rfl) (by kernel_rfl) (fun f => (by simp only [fillR, fillL, List.setIfInBounds_toArray, List.set_cons_succ, List.set_cons_zero, Nat.reduceAdd]; rfl)) ?_ ?_ ?_ ?_ ?_
        · intro x hx; cases hx
        · intro x hx; cases hx
        · intro x hx; cases hx
        · refine ⟨?o0, ?o1, ?o2, ?o3, ?o4, ?o5, ?o6, ?o7, ?o8, ?o9, ?o10, ?o11, ?o12, ?o13, trivial⟩
          case o0 =>
            intro f w10 hG hp hl
            have hE : Ext w9 w10 := hG
            have hS := hE.size
            simp only [OpGoal]
            go_simp
            exact ⟨_, rfl, Ext.refl _, rfl⟩
          case o1 =>
            intro f w10 hG hp hl
            have hE : Ext w9 w10 := hG
            have hS := hE.size
            have q46 : f 0 = .bool true := tellV hp 0 0 rfl rfl (fun h => by cases h)
            simp only [OpGoal]
            go_simp
            exact ⟨_, rfl, Ext.refl _, rfl⟩
          case o2 =>
            intro f w10 hG hp hl
            have hE : Ext w9 w10 := hG
            have hS := hE.size
            have qg : f 1 = .bool true := tellV hp 0 1 rfl rfl (fun h => by cases h)
            change OpGoal _ _ _ f w10 Ext _
            refine og_guard (j := 1) (want := true) rfl qg ?_
            change OpGoal _ _ _ f w10 Ext _
            exact og_load (P := Try.prog) _ _ w4.heap.size _ _ _ rfl rfl rfl (D9.ext hE) Try.underlying28 rfl (by kernel_rfl) rfl
          case o3 =>
            intro f w10 hG hp hl
            have hE : Ext w9 w10 := hG
            have hS := hE.size
            have q48 : f 2 = .agg #[.bool b, .slice ad4 l4 cap4, .slice bd4 m4 dap4] := tellV hp 0 2 rfl rfl (fun h => by cases h)
            have qg : f 1 = .bool true := tellV hp 1 1 rfl rfl (fun h => by cases h)
            change OpGoal _ _ _ f w10 Ext _
            refine og_guard (j := 1) (want := true) rfl qg ?_
            change OpGoal _ _ _ f w10 Ext _
            refine og_call (P := Try.prog) _ _ _ #[f 2] Try.func36 (by kernel_rfl) (by kernel_rfl) rfl rfl (by kernel_rfl) ?_
            rw [q48]
            refine (riswhole_calls _ x 12 _ (RX.out _ _ (Q4c.ext hE).raw) (by omega)).mono ?_
            rintro e w' ⟨rfl, h2⟩
            exact ⟨_, rfl, h2, congrArg Value.bool Hbw1.out⟩
          case o4 =>
            intro f w10 hG hp hl
            have hE : Ext w9 w10 := hG
            have hS := hE.size
            have qg : f 1 = .bool true := tellV hp 0 1 rfl rfl (fun h => by cases h)
            change OpGoal _ _ _ f w10 Ext _
            refine og_guard (j := 1) (want := true) rfl qg ?_
            change OpGoal _ _ _ f w10 Ext _
            exact og_load (P := Try.prog) _ _ w6.heap.size _ _ _ rfl rfl rfl (G9.ext hE) Try.underlying40 rfl (by kernel_rfl) rfl
          case o5 =>
            intro f w10 hG hp hl
            have hE : Ext w9 w10 := hG
            have hS := hE.size
            have q50 : f 4 = .agg #[.bool b6, .slice ad6 l6 cap6, .slice bd6 m6 dap6] := tellV hp 0 4 rfl rfl (fun h => by cases h)
            have qg : f 1 = .bool true := tellV hp 2 1 rfl rfl (fun h => by cases h)
            change OpGoal _ _ _ f w10 Ext _
            refine og_guard (j := 1) (want := true) rfl qg ?_
            change OpGoal _ _ _ f w10 Ext _
            refine og_call (P := Try.prog) _ _ _ #[f 4] Try.func37 (by kernel_rfl) (by kernel_rfl) rfl rfl (by kernel_rfl) ?_
            rw [q50]
            refine (rqiswhole3_calls _ x _ (Q6c.ext hE) (by omega)).mono ?_
            rintro e w' ⟨rfl, h2⟩
            exact ⟨_, rfl, h2, congrArg Value.bool Hbw2.out⟩
          case o6 =>
            intro f w10 hG hp hl
            have hE : Ext w9 w10 := hG
            have hS := hE.size
            have q49 : f 3 = .bool bw := tellV hp 0 3 rfl rfl (fun h => by cases h)
            have q51 : f 5 = .bool bw := tellV hp 1 5 rfl rfl (fun h => by cases h)
            have qg : f 1 = .bool true := tellV hp 2 1 rfl rfl (fun h => by cases h)
            change OpGoal _ _ _ f w10 Ext _
            refine og_guard (j := 1) (want := true) rfl qg ?_
            simp only [OpGoal]
            go_simp
            exact ⟨_, rfl, Ext.refl _, rfl⟩
          case o7 =>
            intro f w10 hG hp hl
            have hE : Ext w9 w10 := hG
            have hS := hE.size
            have q47 : f 1 = .bool true := tellV hp 0 1 rfl rfl (fun h => by cases h)
            have q52 : f 6 = .bool true := tellV hp 1 6 rfl rfl (fun h => by cases h)
            simp only [OpGoal]
            go_simp
            exact ⟨_, rfl, Ext.refl _, rfl⟩
          case o8 =>
            intro f w10 hG hp hl
            have hE : Ext w9 w10 := hG
            have hS := hE.size
            have q53 : f 7 = .bool true := tellV hp 0 7 rfl rfl (fun h => by cases h)
            simp only [OpGoal]
            go_simp
            exact ⟨_, rfl, Ext.refl _, rfl⟩
          case o9 =>
            intro f w10 hG hp hl
            have hE : Ext w9 w10 := hG
            have hS := hE.size
            have qg : f 8 = .bool true := tellV hp 0 8 rfl rfl (fun h => by cases h)
            change OpGoal _ _ _ f w10 Ext _
            refine og_guard (j := 8) (want := true) rfl qg ?_
            change OpGoal _ _ _ f w10 Ext _
            exact og_load (P := Try.prog) _ _ w4.heap.size _ _ _ rfl rfl rfl (D9.ext hE) Try.underlying28 rfl (by kernel_rfl) rfl
          case o10 =>
            intro f w10 hG hp hl
            have hE : Ext w9 w10 := hG
            have hS := hE.size
            have qg : f 8 = .bool true := tellV hp 0 8 rfl rfl (fun h => by cases h)
            change OpGoal _ _ _ f w10 Ext _
            refine og_guard (j := 8) (want := true) rfl qg ?_
            change OpGoal _ _ _ f w10 Ext _
            exact og_load (P := Try.prog) _ _ w.heap.size _ _ _ rfl rfl rfl (C9.ext hE) Try.underlying28 rfl (by kernel_rfl) rfl
          case o11 =>
            intro f w10 hG hp hl
            have hE : Ext w9 w10 := hG
            have hS := hE.size
            have q55 : f 9 = .agg #[.bool b, .slice ad4 l4 cap4, .slice bd4 m4 dap4] := tellV hp 0 9 rfl rfl (fun h => by cases h)
            have q56 : f 10 = .agg #[.bool b, .slice ad n1 cap, .slice ad2 n2 cap2] := tellV hp 1 10 rfl rfl (fun h => by cases h)
            have qg : f 8 = .bool true := tellV hp 2 8 rfl rfl (fun h => by cases h)
            change OpGoal _ _ _ f w10 Ext _
            refine og_guard (j := 8) (want := true) rfl qg ?_
            change OpGoal _ _ _ f w10 Ext _
            refine og_call (P := Try.prog) _ _ _ #[f 9, f 10] Try.func16 (by kernel_rfl) (by kernel_rfl) rfl rfl (by kernel_rfl) ?_
            rw [q55, q56]
            refine (rqsame3_calls _ _ b b xs ys xs ys _ (Q4c.ext hE).raw (Hv.out.ext (E9.trans hE))).mono ?_
            rintro e w' ⟨rfl, h2⟩
            exact ⟨_, rfl, h2, congrArg Value.bool (decide_eq_true ⟨⟨rfl, rfl⟩, rfl⟩)⟩
          case o12 =>
            intro f w10 hG hp hl
            have hE : Ext w9 w10 := hG
            have hS := hE.size
            have q54 : f 8 = .bool true := tellV hp 0 8 rfl rfl (fun h => by cases h)
            have q57 : f 11 = .bool true := tellV hp 1 11 rfl rfl (fun h => by cases h)
            simp only [OpGoal]
            go_simp
            exact ⟨_, rfl, Ext.refl _, rfl⟩
          case o13 =>
            intro f w10 hG hp hl
            have hE : Ext w9 w10 := hG
            have hS := hE.size
            have q58 : f 12 = .bool true := tellV hp 0 12 rfl rfl (fun h => by cases h)
            simp only [OpGoal]
            go_simp
            exact ⟨_, rfl, Ext.refl _, rfl⟩
        · intro f w10 hG hp
          have hE : Ext w9 w10 := ChgS.nil hG
          have q2 : f 13 = .bool true := endV hp 13 (by decide) rfl (fun h => by cases h)
          try simp only [q2]
          clear hp
          go_wp2
          go_ret
          exact ⟨rfl, E9.trans hE⟩
end Go.Proofs.Ytnefipinicfegaa

/-
  Plain laws of fractions: orders, means, roundings; how many words a sum, a product and a rounding take.
-/
namespace Go.Proofs.Ytnefipinicfegaa
open Go.RowKit
set_option linter.unusedVariables false
set_option linter.unusedSimpArgs false

set_option maxRecDepth 100000 in
set_option maxHeartbeats 1000000 in
theorem halfR : Rat.divInt 1 2 = (1 : Rat) / 2 := by
  rw [Rat.divInt_eq_div]; rfl
set_option maxRecDepth 100000 in
set_option maxHeartbeats 1000000 in
theorem mean_lo (a b : Rat) : cmpR a (Rat.divInt 1 2 * (a + b)) = cmpR a b := by
  rw [halfR]; unfold cmpR
  grind
set_option maxRecDepth 100000 in
set_option maxHeartbeats 1000000 in
theorem mean_hi (a b : Rat) : cmpR (Rat.divInt 1 2 * (a + b)) b = cmpR a b := by
  rw [halfR]; unfold cmpR
  grind
set_option maxRecDepth 100000 in
set_option maxHeartbeats 1000000 in
theorem cmpR_add (a b c : Rat) : cmpR (a + c) (b + c) = cmpR a b := by
  unfold cmpR
  grind
set_option maxRecDepth 100000 in
set_option maxHeartbeats 1000000 in
theorem cmpR_swap (a b : Rat) : cmpR b a = - cmpR a b := by
  unfold cmpR
  grind
set_option maxRecDepth 100000 in
set_option maxHeartbeats 1000000 in
theorem cmpR_le {a b : Rat} : cmpR a b ≤ 0 ↔ a ≤ b := by
  unfold cmpR
  grind
set_option maxRecDepth 100000 in
set_option maxHeartbeats 1000000 in
theorem cmpR_lt {a b : Rat} : cmpR a b < 0 ↔ a < b := by
  unfold cmpR
  grind
set_option maxRecDepth 100000 in
set_option maxHeartbeats 1000000 in
theorem cmpR_bounds (a b : Rat) : -1 ≤ cmpR a b ∧ cmpR a b ≤ 1 := by
  unfold cmpR
  grind
set_option maxRecDepth 100000 in
set_option maxHeartbeats 1000000 in
theorem add_sub_self (a b : Rat) : a + b - b = a := by grind
set_option maxRecDepth 100000 in
set_option maxHeartbeats 1000000 in
theorem div_mul_self (a b : Rat) (h : b ≠ 0) : a / b * b = a := by grind
set_option maxRecDepth 100000 in
set_option maxHeartbeats 1000000 in
theorem frac_lt (a : Rat) : a - (a.floor : Rat) < 1 := by
  have := Rat.lt_floor_add_one a
  have h : ((a.floor + 1 : Int) : Rat) = (a.floor : Rat) + 1 := by rw [Rat.intCast_add]; rfl
  rw [h] at this
  grind
set_option maxRecDepth 100000 in
set_option maxHeartbeats 1000000 in
theorem ceil_whole {x : Rat} (h : x = (x.floor : Rat)) : x.ceil = x.floor := by
  have e : x.ceil = ((x.floor : Int) : Rat).ceil := by rw [← h]
  rw [e, Rat.ceil_eq_neg_floor_neg, ← Rat.intCast_neg, Rat.floor_intCast]
  omega
set_option maxRecDepth 100000 in
set_option maxHeartbeats 1000000 in
theorem ceil_not {x : Rat} (h : x ≠ (x.floor : Rat)) : x.ceil = x.floor + 1 := by
  have h1 : x.floor < x.ceil := by
    rw [Rat.floor_lt_iff]
    have := @Rat.le_ceil x
    have := Rat.floor_le x
    have h2 : x.floor ≤ x.ceil := by
      have : (x.floor : Rat) ≤ (x.ceil : Rat) := by grind
      exact Rat.intCast_le_intCast.1 this
    by_cases h3 : x = (x.ceil : Rat)
    · exfalso
      have : x.floor = x.ceil := by
        have e : x.floor = ((x.ceil : Int) : Rat).floor := by rw [← h3]
        rw [e, Rat.floor_intCast]
      rw [this] at h
      exact h h3
    · grind
  have h2 : x.ceil ≤ x.floor + 1 := by
    rw [Rat.ceil_eq_neg_floor_neg]
    have : -(x.floor + 1) ≤ (-x).floor := by
      rw [Rat.le_floor_iff, Rat.intCast_neg]
      have := Rat.lt_floor_add_one x
      grind
    omega
  omega
set_option maxRecDepth 100000 in
set_option maxHeartbeats 1000000 in
theorem frac_sign (x : Rat) : (x - (x.floor : Rat)).num.sign = cmpR x (x.floor : Rat) := num_sign _ _
set_option maxRecDepth 100000 in
set_option maxHeartbeats 1000000 in
theorem szQ_add {x y : Rat} {k l : Nat} (hx : szQ x ≤ k) (hy : szQ y ≤ l) : szQ (x + y) ≤ k + l + 1 := by
  have a := Nat.max_le.1 hx
  have b := Nat.max_le.1 hy
  have hq : x + y = mkRat (x.num * y.den + y.num * x.den) (x.den * y.den) := by
    have := Rat.mkRat_add_mkRat x.num y.num (Nat.pos_iff_ne_zero.1 x.den_pos) (Nat.pos_iff_ne_zero.1 y.den_pos)
    rwa [Rat.mkRat_self, Rat.mkRat_self] at this
  rw [hq]
  have sxy := szZ_mul x.num y.den
  have syx := szZ_mul y.num x.den
  have sad := szZ_add (x.num * y.den) (y.num * x.den)
  have s1 : szZ (x.den : Int) = sz W x.den := rfl
  have s2 : szZ (y.den : Int) = sz W y.den := rfl
  have s3 : szZ ((x.den : Int) * (y.den : Int)) ≤ szZ (x.den : Int) + szZ (y.den : Int) := szZ_mul _ _
  have s4 : szZ ((x.den : Int) * (y.den : Int)) = sz W (x.den * y.den) := rfl
  have hss := szQ_mkRat (x.num * y.den + y.num * x.den) (x.den * y.den) (Nat.mul_pos x.den_pos y.den_pos)
  exact Nat.max_le.2 ⟨by omega, by omega⟩
set_option maxRecDepth 100000 in
set_option maxHeartbeats 1000000 in
theorem szQ_mul {x y : Rat} {k l : Nat} (hx : szQ x ≤ k) (hy : szQ y ≤ l) : szQ (x * y) ≤ k + l := by
  have a := Nat.max_le.1 hx
  have b := Nat.max_le.1 hy
  have hq : x * y = mkRat (x.num * y.num) (x.den * y.den) := by
    have := Rat.mkRat_mul_mkRat x.num y.num x.den y.den
    rwa [Rat.mkRat_self, Rat.mkRat_self] at this
  rw [hq]
  have sxy := szZ_mul x.num y.num
  have s1 : szZ (x.den : Int) = sz W x.den := rfl
  have s2 : szZ (y.den : Int) = sz W y.den := rfl
  have s3 : szZ ((x.den : Int) * (y.den : Int)) ≤ szZ (x.den : Int) + szZ (y.den : Int) := szZ_mul _ _
  have s4 : szZ ((x.den : Int) * (y.den : Int)) = sz W (x.den * y.den) := rfl
  have hss := szQ_mkRat (x.num * y.num) (x.den * y.den) (Nat.mul_pos x.den_pos y.den_pos)
  exact Nat.max_le.2 ⟨by omega, by omega⟩
set_option maxRecDepth 100000 in
set_option maxHeartbeats 1000000 in
theorem szZ_floor (q : Rat) : szZ q.floor ≤ szQ q := by
  rw [Rat.floor_def]
  have h : (q.num / (q.den : Int)).natAbs ≤ q.num.natAbs := Int.natAbs_ediv_le_natAbs _ _
  exact Nat.le_trans (dg_len_mono W_gt h) (by unfold szQ szZ sz at *; omega)
set_option maxRecDepth 100000 in
set_option maxHeartbeats 1000000 in
theorem szZ_ceil (q : Rat) : szZ q.ceil ≤ szQ q := by
  rw [Rat.ceil_eq_neg_floor_neg q]
  have h := szZ_floor (-q)
  have h1 : szZ (-(-q).floor) = szZ (-q).floor := by unfold szZ; rw [Int.natAbs_neg]
  have h2 : szQ (-q) = szQ q := by
    unfold szQ szZ
    rw [Rat.neg_num, Rat.neg_den, Int.natAbs_neg]
  omega
/-- A number of at most 0; one below 0. -/
def PP.le0 {S : Nat} : PP S := PP.pred fun u => ∃ z : Int, u = .int .i64 z ∧ z ≤ 0
def PP.lt0 {S : Nat} : PP S := PP.pred fun u => ∃ z : Int, u = .int .i64 z ∧ z < 0
set_option maxRecDepth 100000 in
set_option maxHeartbeats 1000000 in
/-- A fraction as it is handed in, of at most so many words. -/
theorem RawQ.isK {w : World} {v : Value} {b : Bool} {xs ys : List Nat} (h : RawQ w v b xs ys) (dx : Dig W xs) (dy : Dig W ys) (h1 : xs.length ≤ 1048576) (h2 : ys.length ≤ 1048576) : IsR w v (rawR b xs ys) 1048576 :=
  h.isR dx dy 1048576 h1 h2 (by omega) (by (first | rw [LIM_eq] | rw [LIM_eqT]); omega)
end Go.Proofs.Ytnefipinicfegaa
