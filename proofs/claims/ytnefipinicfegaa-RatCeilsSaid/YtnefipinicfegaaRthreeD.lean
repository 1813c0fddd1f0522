/-
  The document's fractions, walked (IV): rounding; sameness, copies, sizes of fractions as they are handed in; a result's memory written over.
-/
import Derived.Test.YtnefipinicfegaaRthreeC
namespace Go.Proofs.Ytnefipinicfegaa
open Go.RowKit
set_option linter.unusedVariables false
set_option linter.unusedSimpArgs false

set_option maxRecDepth 100000 in
set_option maxHeartbeats 1000000 in
/-- An operation whose guard holds. -/
theorem og_guard {P : Program} {o : Oper} {a : Act} {f : Nat → Value} {w : World} {R : World → World → Prop} {p : Value → World → Prop} {j : Nat} {want : Bool} (hg : o.guard = some (j, want)) (hj : f j = .bool want) (h : OpGoal P { o with guard := none } a f w R p) : OpGoal P o a f w R p := by
  cases o with
  | mk dst op type pos after guard =>
    subst hg
    exact ⟨fun _ => h, fun hn => absurd hj hn⟩

set_option maxRecDepth 100000 in
set_option maxHeartbeats 1000000 in
theorem rqfloor3_calls (v : Value) (q : Rat) (w : World) (hv : CQ w v q) (hsz : szD q ≤ 34359738000) :
    Calls Try.prog 33 #[v] w fun e w' => ∃ v', e = .returned v' ∧ FrZd w.heap.size w' v' q.floor ∧ szT q.floor ≤ szD q + 1 ∧ Ext w w' := by
  obtain ⟨s, t, rfl, hs, ht⟩ := hv
  have hk := szD_le hsz
  have hkq := szD_le (Nat.le_refl (szD q))
  have hZ : CZ w (.agg #[.bool (decide (q.num < 0)), s]) q.num := ⟨s, rfl, hs⟩
  obtain ⟨adt, capt, rfl⟩ := ht.slice
  have Hfl := Lib.hid (Rat.floor_def q)
  have Hsz := Lib.hid (show szT (q.num / (q.den : Int)) ≤ szD q + 1 by
    have h : (q.num / (q.den : Int)).natAbs ≤ q.num.natAbs := Int.natAbs_ediv_le_natAbs _ _
    exact Nat.le_trans (dg_len_mono TK_gt h) (by unfold szT sz at *; omega))
  go_enter Try.func33, Try.ntmps33
  obtain ⟨w1, hw1, e1, b1, b2, s1⟩ := alloc2 w #[.bool (decide (q.num < 0)), s, .slice adt (sz TK q.den) capt] #[.bool false, .slice none 0 0] 40 34
  have hc0 := b1.cell 0
  have hc1 := b1.cell 1
  have hc2 := b1.cell 2
  rw [hw1] at hc0 hc1 hc2
  go_wp2_with fail
  rw [← hw1]
  clear hc0 hc1 hc2
  refine (zdivfloor2_calls _ _ q.num q.den _ (hZ.ext e1) (ht.ext e1) q.den_pos (by omega) (by omega)).mono ?_
  rintro e w2 ⟨v1, v2, rfl, h1, h2, e2⟩
  obtain ⟨s1', rfl, hn1⟩ := h1
  obtain ⟨s2', rfl, hn2⟩ := h2
  obtain ⟨ad1, cap1, rfl⟩ := hn1.slice
  obtain ⟨ad2, cap2, rfl⟩ := hn2.slice
  obtain ⟨b1', hb1'⟩ : ∃ b, b = decide (q.num / (q.den : Int) < 0) := ⟨_, rfl⟩
  obtain ⟨b2', hb2'⟩ : ∃ b, b = decide (q.num % (q.den : Int) < 0) := ⟨_, rfl⟩
  obtain ⟨l1, hl1⟩ : ∃ l, l = sz TK (q.num / (q.den : Int)).natAbs := ⟨_, rfl⟩
  obtain ⟨l2, hl2⟩ : ∃ l, l = sz TK (q.num % (q.den : Int)).natAbs := ⟨_, rfl⟩
  rw [← hb1', ← hb2', ← hl1, ← hl2]
  rw [← hl1] at hn1
  have Hn1 := Lib.hid hn1
  have Hb1 := Lib.hid hb1'
  have Hl1 := Lib.hid hl1
  clear hn1 hn2 hb1' hb2' hl1 hl2
  obtain ⟨w3, hw3, e3, c1, c2, s3⟩ := alloc2 w2 #[.bool b1', .slice ad1 l1 cap1] #[.bool b2', .slice ad2 l2 cap2] 34 34
  have hb := (b2.ext e2).ext e3
  have hs2 := e2.size
  have hc0 := hb.cell 0
  have hc1 := hb.cell 1
  have hf0 := hb.free 0
  have hf1 := hb.free 1
  have hd0 := c1.cell 0
  have hd1 := c1.cell 1
  rw [hw3] at hc0 hc1 hf0 hf1 hd0 hd1
  go_wp2
  rw [← hw3]
  refine ret_box 2 34 (w.heap.size + 1) 34 _ _ (by kernel_rfl) rfl ((hb.set 0 _).set 1 _) Try.underlying34 rfl (by kernel_rfl) rfl ?_
  rw [Hfl.out]
  refine ⟨_, rfl, ⟨.slice ad1 l1 cap1, ?_, ((Hn1.out.ext e3).chg (Chg.trans (Chg.setCell _ (w.heap.size + 1) 0 _) (Chg.setCell _ (w.heap.size + 1) 1 _)) (by omega)).mono (by omega)⟩, Hsz.out, ((e1.trans e2).trans e3).step (Chg.trans (Chg.setCell _ (w.heap.size + 1) 0 _) (Chg.setCell _ (w.heap.size + 1) 1 _)) (by omega)⟩
  rw [← Hb1.out]; rfl

set_option maxRecDepth 100000 in
set_option maxHeartbeats 1000000 in
theorem rqceil3_calls (v : Value) (q : Rat) (w : World) (hv : CQ w v q) (hsz : szD q ≤ 34359738000) :
    Calls Try.prog 34 #[v] w fun e w' => ∃ v', e = .returned v' ∧ FrZd w.heap.size w' v' q.ceil ∧ szT q.ceil ≤ szD q + 1 ∧ Ext w w' := by
  have Hv := Lib.hid hv
  obtain ⟨s, t, rfl, -, -⟩ := hv
  have Hc := Lib.hid (Rat.ceil_eq_neg_floor_neg q)
  go_enter Try.func34, Try.ntmps34
  obtain ⟨w1, hw1, e1, b1, b2, s1⟩ := alloc2 w #[.bool (decide (q.num < 0)), s, t] #[.bool false, .slice none 0 0] 40 34
  have hc0 := b1.cell 0
  have hc1 := b1.cell 1
  have hc2 := b1.cell 2
  rw [hw1] at hc0 hc1 hc2
  go_wp2_with fail
  rw [← hw1]
  clear hc0 hc1 hc2
  refine (rqneg3_calls _ q _ (Hv.out.ext e1) (by omega)).mono ?_
  rintro e w2 ⟨v2, rfl, h2, e2⟩
  go_wp2_with fail
  refine (rqfloor3_calls _ (-q) _ h2 (by rw [szD_neg]; exact hsz)).mono ?_
  rintro e w3 ⟨v3, rfl, h3, hs3, e3⟩
  rw [szD_neg] at hs3
  go_wp2_with fail
  refine (zneg2_calls _ _ _ h3.cz (by omega)).mono ?_
  rintro e w4 ⟨v4, rfl, h4, e4⟩
  obtain ⟨s', rfl, hn⟩ := h4
  rw [Int.natAbs_neg] at hn
  obtain ⟨ad, cap, rfl⟩ := hn.slice
  have Hn := Lib.hid hn
  clear hn
  have es2 := e2.size
  have es3 := e3.size
  have hb := ((b2.ext e2).ext e3).ext e4
  have hc0 := hb.cell 0
  have hc1 := hb.cell 1
  have hf0 := hb.free 0
  have hf1 := hb.free 1
  go_wp2
  refine ret_box 2 34 (w.heap.size + 1) 34 _ _ (by kernel_rfl) rfl ((hb.set 0 _).set 1 _) Try.underlying34 rfl (by kernel_rfl) rfl ?_
  rw [Hc.out, szT_neg]
  exact ⟨_, rfl, ⟨.slice ad (sz TK (-q).floor.natAbs) cap, by simp, by rw [Int.natAbs_neg]; exact ((Hn.out.chg (Chg.trans (Chg.setCell _ (w.heap.size + 1) 0 _) (Chg.setCell _ (w.heap.size + 1) 1 _)) (by omega)).mono (by omega))⟩, hs3, (((e1.trans e2).trans e3).trans e4).step (Chg.trans (Chg.setCell _ (w.heap.size + 1) 0 _) (Chg.setCell _ (w.heap.size + 1) 1 _)) (by omega)⟩

set_option maxRecDepth 100000 in
set_option maxHeartbeats 1000000 in
theorem rqiswhole3_calls (v : Value) (q : Rat) (w : World) (hv : CQ w v q) (hsz : szD q ≤ 34359738000) :
    Calls Try.prog 37 #[v] w fun e w' => e = .returned (.bool (decide (q.den = 1))) ∧ Ext w w' := by
  obtain ⟨s, t, rfl, hs, ht⟩ := hv
  have hk := szD_le hsz
  have hcm : (decide (cmpN q.den 1 = 0)) = decide (q.den = 1) := by
    unfold cmpN
    have := q.den_pos
    split
    · omega
    · split
      · rename_i h1 h2; rw [decide_eq_true h2]; rfl
      · rename_i h1 h2; rw [decide_eq_false h2]; rfl
  have Hcm := Lib.hid hcm
  clear hcm
  go_enter Try.func37, Try.ntmps37
  obtain ⟨w1, hw1, e1, b1, s1⟩ := alloc1 w #[.bool (decide (q.num < 0)), s, t] 40
  obtain ⟨w2, hw2, e2, b2, s2⟩ := alloc1 w1 #[.int .i64 1] 3
  have hone := isN_one (k := .i64) (B := TK) w1 1 3 (by rw [TK_eq]; omega)
  rw [show ((1 : Nat) : Int) = 1 from rfl, ← hw2, s1] at hone
  have hc2 := b1.cell 2
  rw [hw1] at hc2
  go_wp2_with fail
  rw [← hw1, ← hw2]
  clear hc2
  refine (rcmp01_calls _ _ q.den 1 _ ((ht.isN TK_gt (by (first | rw [LIM_eq] | rw [LIM_eqT]); omega)).ext (e1.trans e2)) hone).mono ?_
  rintro e w3 ⟨rfl, e3⟩
  go_wp2
  go_ret
  exact ⟨by rw [← Hcm.out]; rfl, (e1.trans e2).trans e3⟩

/-- v is a fraction as it is handed in: its sign, its words above and below. -/
def RawQ (w : World) (v : Value) (b : Bool) (xs ys : List Nat) : Prop := ∃ s t, v = .agg #[.bool b, s, t] ∧ IsL .u64 w s xs ∧ IsL .u64 w t ys
set_option maxRecDepth 100000 in
set_option maxHeartbeats 1000000 in
theorem RawQ.ext {w w' : World} {v : Value} {b : Bool} {xs ys : List Nat} (h : RawQ w v b xs ys) (he : Ext w w') : RawQ w' v b xs ys := by
  obtain ⟨s, t, h1, h2, h3⟩ := h
  exact ⟨s, t, h1, h2.ext he, h3.ext he⟩
set_option maxRecDepth 100000 in
set_option maxHeartbeats 1000000 in
theorem FrQ.raw {B0 : Nat} {w : World} {v : Value} {q : Rat} (h : FrQ B0 w v q) : RawQ w v (decide (q.num < 0)) (dg W q.num.natAbs) (dg W q.den) := by
  obtain ⟨s, t, h1, h2, h3⟩ := h
  exact ⟨s, t, h1, h2.isC, h3.isC⟩
set_option maxRecDepth 100000 in
set_option maxHeartbeats 1000000 in
theorem zeroQ.raw (w : World) : RawQ w zeroQ false [] [] := ⟨_, _, rfl, ⟨none, 0, rfl, Nat.le_refl _, by omega, Rd.nil _ _⟩, ⟨none, 0, rfl, Nat.le_refl _, by omega, Rd.nil _ _⟩⟩
/-- .. in memory of the call's own. -/
def FrR (B0 : Nat) (w : World) (v : Value) (b : Bool) (xs ys : List Nat) : Prop := ∃ s t, v = .agg #[.bool b, s, t] ∧ FrL 79 .u64 B0 w s xs ∧ FrL 79 .u64 B0 w t ys
set_option maxRecDepth 100000 in
set_option maxHeartbeats 1000000 in
theorem FrR.raw {B0 : Nat} {w : World} {v : Value} {b : Bool} {xs ys : List Nat} (h : FrR B0 w v b xs ys) : RawQ w v b xs ys := by
  obtain ⟨s, t, h1, h2, h3⟩ := h
  exact ⟨s, t, h1, h2.isL, h3.isL⟩
set_option maxRecDepth 100000 in
set_option maxHeartbeats 1000000 in
theorem FrR.ext {B0 : Nat} {w w' : World} {v : Value} {b : Bool} {xs ys : List Nat} (h : FrR B0 w v b xs ys) (he : Ext w w') : FrR B0 w' v b xs ys := by
  obtain ⟨s, t, h1, h2, h3⟩ := h
  exact ⟨s, t, h1, h2.ext he, h3.ext he⟩
set_option maxRecDepth 100000 in
set_option maxHeartbeats 1000000 in
theorem FrR.schg {S B0 : Nat} {w w' : World} {v : Value} {b : Bool} {xs ys : List Nat} (h : FrR B0 w v b xs ys) (he : SChg S w w') : FrR B0 w' v b xs ys := by
  obtain ⟨s, t, h1, h2, h3⟩ := h
  exact ⟨s, t, h1, h2.schg he (.inl rfl), h3.schg he (.inl rfl)⟩
set_option maxRecDepth 100000 in
set_option maxHeartbeats 1000000 in
theorem FrR.chg {B0 g : Nat} {w w' : World} {v : Value} {b : Bool} {xs ys : List Nat} (h : FrR B0 w v b xs ys) (he : Chg g w w') (hg : g < B0) : FrR B0 w' v b xs ys := by
  obtain ⟨s, t, h1, h2, h3⟩ := h
  exact ⟨s, t, h1, h2.chg he hg, h3.chg he hg⟩
set_option maxRecDepth 100000 in
set_option maxHeartbeats 1000000 in
theorem FrR.mono {B0 B1 : Nat} {w : World} {v : Value} {b : Bool} {xs ys : List Nat} (h : FrR B0 w v b xs ys) (hB : B1 ≤ B0) : FrR B1 w v b xs ys := by
  obtain ⟨s, t, h1, h2, h3⟩ := h
  exact ⟨s, t, h1, h2.mono hB, h3.mono hB⟩
set_option maxRecDepth 100000 in
set_option maxHeartbeats 1000000 in
theorem FrR.parts {B0 : Nat} {w : World} {v : Value} {b : Bool} {xs ys : List Nat} (h : FrR B0 w v b xs ys) : ∃ cells, v = .agg cells ∧ cells.size = 3 ∧ cells.all (·.oneCell') = true ∧ NoInt cells := by
  obtain ⟨s, t, rfl, hn, hm⟩ := h
  obtain ⟨ad, cap, rfl⟩ := hn.slice
  obtain ⟨ad2, cap2, rfl⟩ := hm.slice
  exact ⟨_, rfl, rfl, all3 rfl rfl rfl, noInt3 _ _ _ _ _ _ _⟩
def PP.frR {S : Nat} (b : Bool) (xs ys : List Nat) : PP S := ⟨false, fun u w => FrR S w u b xs ys, fun _ _ _ h hp => hp.ext h, fun _ _ hg _ _ _ h hp => hp.chg h hg⟩
def PA.frR {S : Nat} (b : Bool) (xs ys : List Nat) : PA S := ⟨fun u w => FrR S w u b xs ys, fun _ _ _ h hp => hp.ext h, fun _ _ _ h hp => hp.schg h⟩

set_option maxRecDepth 100000 in
set_option maxHeartbeats 1000000 in
theorem rqsame3_calls (v u : Value) (b c : Bool) (xs ys xs2 ys2 : List Nat) (w : World) (hv : RawQ w v b xs ys) (hu : RawQ w u c xs2 ys2) :
    Calls Try.prog 16 #[v, u] w fun e w' => e = .returned (.bool (decide ((b = c ∧ xs = xs2) ∧ ys = ys2))) ∧ Ext w w' := by
  obtain ⟨s, t, rfl, hs, ht⟩ := hv
  obtain ⟨s2, t2, rfl, hs2, ht2⟩ := hu
  have r1 : RawI w (.agg #[.bool b, s]) b xs := ⟨s, rfl, hs⟩
  have r2 : RawI w (.agg #[.bool c, s2]) c xs2 := ⟨s2, rfl, hs2⟩
  go_enter Try.func16, Try.ntmps16
  obtain ⟨w1, hw1, e1, b1, b2, s1⟩ := alloc2 w #[.bool b, s, t] #[.bool c, s2, t2] 28 28
  have hc0 := b1.cell 0
  have hc1 := b1.cell 1
  have hc2 := b1.cell 2
  have hd0 := b2.cell 0
  have hd1 := b2.cell 1
  have hd2 := b2.cell 2
  rw [hw1] at hc0 hc1 hc2 hd0 hd1 hd2
  go_wp2_with fail
  rw [← hw1]
  clear hc0 hc1 hc2 hd0 hd1 hd2
  refine (zsame2_calls _ _ b c xs xs2 _ (r1.ext e1) (r2.ext e1)).mono ?_
  rintro e w2 ⟨rfl, e2⟩
  have hc2 := (b1.ext e2).cell 2
  have hd2 := (b2.ext e2).cell 2
  by_cases h : b = c ∧ xs = xs2
  · have hdec : decide (b = c ∧ xs = xs2) = true := decide_eq_true h
    rw [hdec]
    go_wp2_with fail
    refine (rsame_calls _ _ ys ys2 _ (ht.ext (e1.trans e2)) (ht2.ext (e1.trans e2))).mono ?_
    rintro e w3 ⟨rfl, e3⟩
    go_wp2
    go_ret
    exact ⟨by simp [h], (e1.trans e2).trans e3⟩
  · have hdec : decide (b = c ∧ xs = xs2) = false := decide_eq_false h
    rw [hdec]
    go_wp2
    go_ret
    exact ⟨by rw [decide_eq_false (fun hh => h hh.1)]; rfl, e1.trans e2⟩

set_option maxRecDepth 100000 in
set_option maxHeartbeats 1000000 in
theorem rqcopy3_calls (v : Value) (b : Bool) (xs ys : List Nat) (w : World) (hv : RawQ w v b xs ys) (hlen : xs.length ≤ 8796093022208) (hlen2 : ys.length ≤ 8796093022208) :
    Calls Try.prog 27 #[v] w fun e w' => ∃ v', e = .returned v' ∧ FrR w.heap.size w' v' b xs ys ∧ Ext w w' := by
  obtain ⟨s, t, rfl, hs, ht⟩ := hv
  have r1 : RawI w (.agg #[.bool b, s]) b xs := ⟨s, rfl, hs⟩
  go_enter Try.func27, Try.ntmps27
  go_wp2_with fail
  obtain ⟨w1, hw1, e1, b1, b2, s1⟩ := alloc2 w #[.bool b, s, t] #[.bool false, .slice none 0 0, .slice none 0 0] 28 28
  rw [← hw1]
  clear hw1
  refine wp_region_puts [⟨7, (w.heap.size + 1), 28, PP.frR b xs ys⟩] [PP.val (.pointer (some ⟨w.heap.size, 0, none⟩)), PP.val (.agg #[.bool b, s]), PP.frI b xs, PP.val (.pointer (some ⟨w.heap.size, 2, none⟩)), PP.val (t), PP.frLw ys, PP.frR b xs ys, PP.any] [] [7, 6, 5, 4, 3, 2, 1, 0]
    (by kernel_rfl) (by kernel_rfl) (fun f => (by simp only [fillR, fillL, List.setIfInBounds_toArray, List.set_cons_succ, List.set_cons_zero, Nat.reduceAdd]; rfl)) ?_ ?_ ?_ ?_ ?_
  · intro x hx; simp only [List.mem_singleton] at hx; subst hx; exact ⟨by show (w.heap.size + 1) < w1.heap.size; omega, rfl⟩
  · intro x hx; simp only [List.mem_singleton] at hx; subst hx; rfl
  · intro x hx y hy h; simp only [List.mem_singleton] at hx hy; subst hx hy; exact absurd rfl h
  · refine ⟨?o0, ?o1, ?o2, ?o3, ?o4, ?o5, ?o6, ?o7, trivial⟩
    case o0 =>
      intro f w2 hG hp hl
      have hE : Ext w1 w2 := hG
      have hS := hE.size
      simp only [OpGoal]
      go_simp
      exact ⟨_, rfl, Ext.refl _, rfl⟩
    case o1 =>
      intro f w2 hG hp hl
      have hE : Ext w1 w2 := hG
      have hS := hE.size
      have q3 : f 0 = .pointer (some ⟨w.heap.size, 0, none⟩) := tellV hp 0 0 rfl rfl (fun h => by cases h)
      have hbx := b1.ext hE
      have hcell0 := hbx.cell 0
      have hcell1 := hbx.cell 1
      have hcell2 := hbx.cell 2
      simp only [OpGoal]
      go_simp
      exact ⟨_, rfl, Ext.refl _, rfl⟩
    case o2 =>
      intro f w2 hG hp hl
      have hE : Ext w1 w2 := hG
      have hS := hE.size
      have q4 : f 1 = .agg #[.bool b, s] := tellV hp 0 1 rfl rfl (fun h => by cases h)
      change OpGoal _ _ _ f w2 Ext _
      refine og_call (P := Try.prog) _ _ _ #[f 1] Try.func12 (by kernel_rfl) (by kernel_rfl) rfl rfl (by kernel_rfl) ?_
      rw [q4]
      refine (zcopy2_calls _ b xs _ (r1.ext (e1.trans hE)) hlen).mono ?_
      rintro e w' ⟨v', rfl, ⟨s', h0, h1⟩, h2⟩
      exact ⟨v', rfl, h2, s', h0, h1.mono hS⟩
    case o3 =>
      intro f w2 hG hp hl
      have hE : Ext w1 w2 := hG
      have hS := hE.size
      simp only [OpGoal]
      go_simp
      exact ⟨_, rfl, Ext.refl _, rfl⟩
    case o4 =>
      intro f w2 hG hp hl
      have hE : Ext w1 w2 := hG
      have hS := hE.size
      have q6 : f 3 = .pointer (some ⟨w.heap.size, 2, none⟩) := tellV hp 0 3 rfl rfl (fun h => by cases h)
      have hcell := (b1.ext hE).cell 2
      simp only [OpGoal]
      go_simp
      exact ⟨_, rfl, Ext.refl _, rfl⟩
    case o5 =>
      intro f w2 hG hp hl
      have hE : Ext w1 w2 := hG
      have hS := hE.size
      have q7 : f 4 = t := tellV hp 0 4 rfl rfl (fun h => by cases h)
      change OpGoal _ _ _ f w2 Ext _
      refine og_call (P := Try.prog) _ _ _ #[f 4] Try.func54 (by kernel_rfl) (by kernel_rfl) rfl rfl (by kernel_rfl) ?_
      rw [q7]
      refine (rcopy_calls _ ys _ (ht.ext (e1.trans hE)) hlen2).mono ?_
      rintro e w' ⟨v', rfl, h1, h2⟩
      exact ⟨v', rfl, h2, h1.mono hS⟩
    case o6 =>
      intro f w2 hG hp hl
      have hE : Ext w1 w2 := hG
      have hS := hE.size
      have q5 := tellV hp 0 2 rfl rfl (fun _ => hE)
      have q8 := tellV hp 1 5 rfl rfl (fun _ => hE)
      obtain ⟨s', hv, hn⟩ := q5
      obtain ⟨ad, cap, rfl⟩ := hn.slice
      obtain ⟨ad2, cap2, hv2⟩ := FrL.slice q8
      simp only [OpGoal]
      go_simp
      exact ⟨_, rfl, Ext.refl _, _, _, rfl, hn, hv2 ▸ q8⟩
    case o7 =>
      intro f w2 hG hp hl
      have hE : Ext w1 w2 := hG
      have hS := hE.size
      have q9 := tellV hp 0 6 rfl rfl (fun _ => hE)
      intro hg0
      change OpGoal _ _ _ f w2 (Chg _) _
      obtain ⟨s', t', hv, hn, hm⟩ := q9
      obtain ⟨ad, cap, rfl⟩ := hn.slice
      obtain ⟨ad2, cap2, rfl⟩ := hm.slice
      exact og_store (P := Try.prog) _ _ _ (w.heap.size + 1) _ _ _ (PP.frR _ _ _ : PP _).p rfl rfl rfl hv (show Bx 28 w2 _ _ from hg0.trans b2) (by kernel_rfl) rfl (all3 rfl rfl rfl) (fun w' h => ⟨_, _, rfl, hn.chg h (by omega), hm.chg h (by omega)⟩)
  · intro f w2 hG hp
    obtain ⟨cs0, hbx0, hz0⟩ : ∃ cs, Bx 28 w2 (w.heap.size + 1) cs ∧ (PP.frR b xs ys : PP w1.heap.size).p (.agg cs) w2 := endS hp 7 (by decide)
    clear hp
    obtain ⟨s', t', hv, hn, hm⟩ := hz0
    cases hv
    go_wp2
    refine ret_box 2 28 (w.heap.size + 1) 28 _ _ (by kernel_rfl) rfl hbx0 Try.underlying28 rfl (by kernel_rfl) rfl ?_
    exact ⟨_, rfl, ⟨_, _, rfl, FrL.mono hn (by omega), FrL.mono hm (by omega)⟩, e1.stepS hG (by simp)⟩

set_option maxRecDepth 100000 in
set_option maxHeartbeats 1000000 in
theorem rqwords3_calls (v : Value) (b : Bool) (xs ys : List Nat) (w : World) (hv : RawQ w v b xs ys) (hlen : xs.length + ys.length ≤ 9223372036854775807) :
    Calls Try.prog 65 #[v] w fun e w' => e = .returned (.int .i64 ((xs.length + ys.length : Nat) : Int)) ∧ Ext w w' := by
  obtain ⟨s, t, rfl, hs, ht⟩ := hv
  obtain ⟨ad, cap, rfl, _, _, _⟩ := hs
  obtain ⟨ad2, cap2, rfl, _, _, _⟩ := ht
  go_enter Try.func65, Try.ntmps65
  go_wp2
  go_ret
  exact ⟨by rfl, (Ext.refl w).alloc _⟩
end Go.Proofs.Ytnefipinicfegaa
