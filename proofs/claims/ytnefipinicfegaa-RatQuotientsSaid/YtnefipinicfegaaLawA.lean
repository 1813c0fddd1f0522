/-
  What the laws share: small fractions, the document's examples, how great a fraction is; a law's end.
-/
import Derived.Test.YtnefipinicfegaaRthreeD
import Derived.ProofKit
import Derived.OpenShut
namespace Go.Proofs.Ytnefipinicfegaa
open Go.RowKit

set_option maxRecDepth 100000 in
set_option maxHeartbeats 1000000 in
theorem same_true (v u : Value) (q : Rat) (B0 B1 : Nat) (w : World) (hv : FrQ B0 w v q) (hu : FrQ B1 w u q) :
    Calls Try.prog 16 #[v, u] w fun e w' => e = .returned (.bool true) ∧ Ext w w' := by
  refine (rqsame3_calls v u _ _ _ _ _ _ w hv.raw hu.raw).mono ?_
  rintro e w' ⟨rfl, h⟩
  exact ⟨by simp, h⟩
set_option maxRecDepth 100000 in
set_option maxHeartbeats 1000000 in
theorem zsame_true (v u : Value) (z : Int) (B0 B1 : Nat) (w : World) (hv : FrZ B0 w v z) (hu : FrZ B1 w u z) :
    Calls Try.prog 19 #[v, u] w fun e w' => e = .returned (.bool true) ∧ Ext w w' := by
  refine (zsame2_calls v u _ _ _ _ w hv.raw hu.raw).mono ?_
  rintro e w' ⟨rfl, h⟩
  exact ⟨by simp, h⟩

set_option maxRecDepth 100000 in
set_option maxHeartbeats 1000000 in
theorem szT_small {z : Int} (h : z.natAbs ≤ 9223372036854775808) : szT z ≤ 5 := by
  refine dg_len_le TK_gt ?_
  rw [TK_eq]
  have : (10000 : Nat) ^ 5 = 100000000000000000000 := by decide
  omega
set_option maxRecDepth 100000 in
set_option maxHeartbeats 1000000 in
theorem szD_divInt (x y : Int) (hy : y ≠ 0) : szD (Rat.divInt x y) ≤ max (szT x) (szT y) := by
  have h := mkRat_divInt (decide (x < 0)) (decide (y < 0)) x.natAbs y.natAbs (by omega)
  rw [sgn_self, sgn_self] at h
  rw [← h]
  have := szD_mkRat (sgn (decide (x < 0) != decide (y < 0)) x.natAbs) y.natAbs (by omega)
  rw [szT_sgn] at this
  have e : sz TK x.natAbs = szT x := rfl
  have e2 : sz TK y.natAbs = szT y := rfl
  rw [e, e2] at this
  unfold szD
  omega

set_option maxRecDepth 100000 in
set_option maxHeartbeats 1000000 in
theorem small_calls (x y : Int) (w : World) (h0 : -9223372036854775808 ≤ x) (h1 : x ≤ 9223372036854775807) (h2 : -9223372036854775808 ≤ y) (h3 : y ≤ 9223372036854775807) (hy : y ≠ 0) :
    Calls Try.prog 25 #[.int .i64 x, .int .i64 y] w fun e w' => ∃ v', e = .returned v' ∧ FrQ w.heap.size w' v' (Rat.divInt x y) ∧ Ext w w' := by
  have sx := szT_small (z := x) (by omega)
  have sy := szT_small (z := y) (by omega)
  have sq := szD_divInt x y hy
  go_enter Try.func25, Try.ntmps25
  go_wp2_with fail
  obtain ⟨w1, hw1, e1, b1, s1⟩ := alloc1 w #[.bool false, .slice none 0 0, .slice none 0 0] 28
  rw [← hw1]
  refine (zsmall2_calls x _ h0 h1).mono ?_
  rintro e w2 ⟨v1, rfl, hv1, e2⟩
  go_wp2_with fail
  refine (zsmall2_calls y _ h2 h3).mono ?_
  rintro e w3 ⟨v2, rfl, hv2, e3⟩
  go_wp2_with fail
  refine (rqmake3_calls _ _ x y _ (hv1.cz.ext e3) hv2.cz hy (by omega) (by omega)).mono ?_
  rintro e w4 ⟨v3, rfl, hq, e4⟩
  go_wp2_with fail
  refine (rqto3_calls _ _ _ hq.cq (by omega)).mono ?_
  rintro e w5 ⟨v4, rfl, hq2, e5⟩
  obtain ⟨s', t', rfl, hn, hm⟩ := hq2
  obtain ⟨ad, cap, rfl⟩ := hn.slice
  obtain ⟨ad2, cap2, rfl⟩ := hm.slice
  have Hn := Lib.hid hn
  have Hm := Lib.hid hm
  clear hn hm
  have es2 := e2.size
  have es3 := e3.size
  have es4 := e4.size
  have hb := (((b1.ext e2).ext e3).ext e4).ext e5
  have hc0 := hb.cell 0
  have hc1 := hb.cell 1
  have hc2 := hb.cell 2
  have hf0 := hb.free 0
  have hf1 := hb.free 1
  have hf2 := hb.free 2
  go_wp2
  refine ret_box 4 28 w.heap.size 28 _ _ (by kernel_rfl) rfl (((hb.set 0 _).set 1 _).set 2 _) Try.underlying28 rfl (by kernel_rfl) rfl ?_
  exact ⟨_, rfl, ⟨_, _, rfl, ((Hn.out.chg (Chg.trans (Chg.trans (Chg.setCell _ w.heap.size 0 _) (Chg.setCell _ w.heap.size 1 _)) (Chg.setCell _ w.heap.size 2 _)) (by omega)).mono (by omega)), ((Hm.out.chg (Chg.trans (Chg.trans (Chg.setCell _ w.heap.size 0 _) (Chg.setCell _ w.heap.size 1 _)) (Chg.setCell _ w.heap.size 2 _)) (by omega)).mono (by omega))⟩, ((((e1.trans e2).trans e3).trans e4).trans e5).step (Chg.trans (Chg.trans (Chg.setCell _ w.heap.size 0 _) (Chg.setCell _ w.heap.size 1 _)) (Chg.setCell _ w.heap.size 2 _)) (by omega)⟩

set_option maxRecDepth 100000 in
set_option maxHeartbeats 1000000 in
theorem great_calls (v u : Value) (b c : Bool) (xs ys xs2 ys2 : List Nat) (w : World) (hv : RawQ w v b xs ys) (hu : RawQ w u c xs2 ys2) (h1 : xs.length + ys.length ≤ 9223372036854775807) (h2 : xs2.length + ys2.length ≤ 9223372036854775807) :
    Calls Try.prog 26 #[v, u] w fun e w' => e = .returned (.bool (decide (12 < xs.length + ys.length ∨ 12 < xs2.length + ys2.length))) ∧ Ext w w' := by
  have Hv := Lib.hid hv
  have Hu := Lib.hid hu
  obtain ⟨s, t, rfl, -, -⟩ := hv
  obtain ⟨s2, t2, rfl, -, -⟩ := hu
  obtain ⟨n, hn⟩ : ∃ n, n = xs.length + ys.length := ⟨_, rfl⟩
  obtain ⟨m, hm⟩ : ∃ m, m = xs2.length + ys2.length := ⟨_, rfl⟩
  have Hn := Lib.hid hn
  have Hm := Lib.hid hm
  rw [← hn] at h1 ⊢
  rw [← hm] at h2 ⊢
  clear hn hm
  go_enter Try.func26, Try.ntmps26
  obtain ⟨w1, hw1, e1, b1, b2, s1⟩ := alloc2 w #[.bool b, s, t] #[.bool c, s2, t2] 28 28
  have hc0 := b1.cell 0
  have hc1 := b1.cell 1
  have hc2 := b1.cell 2
  rw [hw1] at hc0 hc1 hc2
  go_wp2_with fail
  rw [← hw1]
  clear hc0 hc1 hc2
  refine (rqwords3_calls _ b xs ys _ (Hv.out.ext e1) (by rw [← Hn.out]; exact h1)).mono ?_
  rw [← Hn.out]
  rintro e w2 ⟨rfl, e2⟩
  have hd0 := (b2.ext e2).cell 0
  have hd1 := (b2.ext e2).cell 1
  have hd2 := (b2.ext e2).cell 2
  by_cases hg : 12 < n
  · have hdec : decide (12 < n ∨ 12 < m) = true := decide_eq_true (.inl hg)
    have Hdec := Lib.hid hdec
    clear hdec
    go_wp2
    go_ret
    exact ⟨by first | rfl | (rw [Hdec.out]; rfl), e1.trans e2⟩
  · have hg' : ¬ (12 : Int) < (n : Int) := by omega
    go_wp2_with fail
    refine (rqwords3_calls _ c xs2 ys2 _ (Hu.out.ext (e1.trans e2)) (by rw [← Hm.out]; exact h2)).mono ?_
    rw [← Hm.out]
    rintro e w3 ⟨rfl, e3⟩
    have hdec : decide (12 < n ∨ 12 < m) = decide (12 < m) := by simp [hg]
    by_cases hg2 : 12 < m
    · have Hdec := Lib.hid (hdec.trans (decide_eq_true hg2))
      clear hdec
      go_wp2
      go_ret
      exact ⟨by rw [Hdec.out]; show Ending.returned (.bool (decide (12 < (n : Int)) || decide (12 < (m : Int)))) = _; rw [decide_eq_false (show ¬ (12 : Int) < (n : Int) by omega), decide_eq_true (show (12 : Int) < (m : Int) by omega)]; rfl, (e1.trans e2).trans e3⟩
    · have hg2' : ¬ (12 : Int) < (m : Int) := by omega
      have Hdec := Lib.hid (hdec.trans (decide_eq_false hg2))
      clear hdec
      go_wp2
      go_ret
      exact ⟨by rw [Hdec.out]; show Ending.returned (.bool (decide (12 < (n : Int)) || decide (12 < (m : Int)))) = _; rw [decide_eq_false (show ¬ (12 : Int) < (n : Int) by omega), decide_eq_false (show ¬ (12 : Int) < (m : Int) by omega)]; rfl, (e1.trans e2).trans e3⟩

section
open Go.ChangeShapes Go.WideShapes Go.ChangeAt
variable {H : Type} {enc : TypeId × Value → H} {P : Program}
set_option maxRecDepth 100000 in
set_option maxHeartbeats 1000000 in
theorem post_of_ext {f : Func} {s : ChangeSpec} {apart fresh handsOn again : Bool} {W W' : World} {args : Array Value} {v : Value} {ds gs : List (DataW H)} {before pa pv : List MemPlace}
    (hW : DataW.Whole enc P f.params.toList s.vars apart W args.toList ds gs before)
    (hres : ∀ (b : Nat) (sp : Nat → Bool) (hd : Bool), DataW.TrodAll enc P W' b sp hd f.resultTypes.toList (v.resultList f.resultTypes.size) (s.fn H (ds ++ gs)).results [])
    (hargs : ∀ sp : Nat → Bool, (∀ p ∈ before, sp p.block = true) → DataW.TrodAll enc P W' 0 sp true f.params.toList args.toList (s.fn H (ds ++ gs)).args pa)
    (hvars : ∀ sp : Nat → Bool, (∀ p ∈ before, sp p.block = true) → DataW.TrodVars enc P W' sp s.vars (s.fn H (ds ++ gs)).vars pv)
    (hps : before = pa ++ pv) (hE : Ext W W')
    (hok : ∀ (j : Nat) (t : TypeId) (r : Value), f.resultTypes[j]? = some t → (v.resultList f.resultTypes.size)[j]? = some r → Value.okWide P W' .any 0 t r) :
    s.post enc P f apart fresh handsOn again W args v W' := by
  have hold : ∀ p ∈ before, (fun b => decide (b < W.heap.size)) p.block = true := fun p hp => by simpa using hW.lt p hp
  refine ⟨ds, gs, before, [], pa, pv, hW, hres _ _ _, hargs _ hold, hvars _ hold, World.keptBut_mono (fun p hp => ⟨hp, ?_⟩) (hE.below.frame _), fun _ => ?_⟩
  · rw [hps, List.mem_append] at hp
    exact Or.inr hp
  · have hlt := hW.lt
    obtain ⟨_, _, _, _, _, hz, hn⟩ := hW
    refine ⟨hok, _, _, ([] ++ pa) ++ pv, ⟨[] ++ pa, pv, trodAll_append (hargs _ (fun _ _ => rfl)) (hres _ _ _), hvars _ (fun _ _ => rfl), rfl, ?_, ?_⟩, ?_⟩
    · intro b off hp
      have h0 := hz b off (by rw [hps]; simpa using hp)
      rw [Ext.frozen hE b off (hlt (.cell b off) (by rw [hps]; simpa using hp))]
      exact h0
    · intro ha
      have := hn ha
      rw [hps] at this
      simpa using this
    · intro p hp _
      rw [hps]
      simpa using hp
end
end Go.Proofs.Ytnefipinicfegaa
