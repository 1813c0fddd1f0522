/-
  The document's whole numbers, walked (I).
-/
import Derived.Test.YtnefipinicfegaaRefH
namespace Go.Proofs.Ytnefipinicfegaa
open Go.RowKit
set_option linter.unusedVariables false
set_option linter.unusedSimpArgs false

/-- v tells the document's whole number z. -/
def CZ (w : World) (v : Value) (z : Int) : Prop := ∃ s, v = .agg #[.bool (decide (z < 0)), s] ∧ IsC .i64 TK w s z.natAbs
/-- .. in memory of the call's own. -/
def FrZd (B0 : Nat) (w : World) (v : Value) (z : Int) : Prop := ∃ s, v = .agg #[.bool (decide (z < 0)), s] ∧ FrN 3 .i64 TK B0 w s z.natAbs
/-- How many places a whole number has. -/
def szT (z : Int) : Nat := sz TK z.natAbs
set_option maxRecDepth 100000 in
set_option maxHeartbeats 1000000 in
theorem CZ.ext {w w' : World} {v : Value} {z : Int} (h : CZ w v z) (he : Ext w w') : CZ w' v z := by
  obtain ⟨s, h1, h2⟩ := h
  exact ⟨s, h1, h2.ext he⟩
set_option maxRecDepth 100000 in
set_option maxHeartbeats 1000000 in
theorem FrZd.ext {B0 : Nat} {w w' : World} {v : Value} {z : Int} (h : FrZd B0 w v z) (he : Ext w w') : FrZd B0 w' v z := by
  obtain ⟨s, h1, h2⟩ := h
  exact ⟨s, h1, h2.ext he⟩
set_option maxRecDepth 100000 in
set_option maxHeartbeats 1000000 in
theorem FrZd.chg {B0 g : Nat} {w w' : World} {v : Value} {z : Int} (h : FrZd B0 w v z) (he : Chg g w w') (hg : g < B0) : FrZd B0 w' v z := by
  obtain ⟨s, h1, h2⟩ := h
  exact ⟨s, h1, h2.chg he hg⟩
set_option maxRecDepth 100000 in
set_option maxHeartbeats 1000000 in
theorem FrZd.chgS {B0 : Nat} {w w' : World} {v : Value} {z : Int} {bs : List Nat} (h : FrZd B0 w v z) (he : ChgS bs w w') (hb : ∀ g ∈ bs, g < B0) : FrZd B0 w' v z := by
  obtain ⟨s, h1, h2⟩ := h
  exact ⟨s, h1, h2.chgS he hb⟩
set_option maxRecDepth 100000 in
set_option maxHeartbeats 1000000 in
theorem FrZd.mono {B0 B1 : Nat} {w : World} {v : Value} {z : Int} (h : FrZd B0 w v z) (hB : B1 ≤ B0) : FrZd B1 w v z := by
  obtain ⟨s, h1, h2⟩ := h
  exact ⟨s, h1, h2.mono hB⟩
set_option maxRecDepth 100000 in
set_option maxHeartbeats 1000000 in
theorem FrZd.cz {B0 : Nat} {w : World} {v : Value} {z : Int} (h : FrZd B0 w v z) : CZ w v z := by
  obtain ⟨s, h1, h2⟩ := h
  exact ⟨s, h1, h2.isC⟩
set_option maxRecDepth 100000 in
set_option maxHeartbeats 1000000 in
theorem FrZd.schg {S : Nat} {w1 w2 : World} {B0 : Nat} {v : Value} {z : Int} (h : FrZd B0 w1 v z) (hc : SChg S w1 w2) : FrZd B0 w2 v z := by
  obtain ⟨s, h1, h2⟩ := h
  exact ⟨s, h1, h2.schg hc (.inr rfl)⟩
set_option maxRecDepth 100000 in
set_option maxHeartbeats 1000000 in
theorem IsC.schg {S : Nat} {w1 w2 : World} {k : IntKind} {B n : Nat} {v : Value} (h : IsC k B w1 v n) (hc : SChg S w1 w2) : IsC k B w2 v n := by
  obtain ⟨ad, cap, h1, h2, h3, h4⟩ := h
  exact ⟨ad, cap, h1, h2, h3, h4.schg hc⟩
set_option maxRecDepth 100000 in
set_option maxHeartbeats 1000000 in
theorem CZ.schg {S : Nat} {w1 w2 : World} {v : Value} {z : Int} (h : CZ w1 v z) (hc : SChg S w1 w2) : CZ w2 v z := by
  obtain ⟨s, h1, h2⟩ := h
  exact ⟨s, h1, h2.schg hc⟩
set_option maxRecDepth 100000 in
set_option maxHeartbeats 1000000 in
theorem IsC.slice {k : IntKind} {B n : Nat} {w : World} {v : Value} (h : IsC k B w v n) : ∃ ad cap, v = .slice ad (sz B n) cap := by
  obtain ⟨ad, cap, rfl, _⟩ := h
  exact ⟨ad, cap, rfl⟩
set_option maxRecDepth 100000 in
set_option maxHeartbeats 1000000 in
theorem IsC.oneCell {k : IntKind} {B n : Nat} {w : World} {v : Value} (h : IsC k B w v n) : v.oneCell' = true := by
  obtain ⟨ad, cap, rfl⟩ := h.slice
  rfl
set_option maxRecDepth 100000 in
set_option maxHeartbeats 1000000 in
theorem FrZd.parts {B0 : Nat} {w : World} {v : Value} {z : Int} (h : FrZd B0 w v z) : ∃ cells, v = .agg cells ∧ cells.size = 2 ∧ cells.all (·.oneCell') = true ∧ NoInt cells := by
  obtain ⟨s, rfl, hn⟩ := h
  obtain ⟨ad, cap, rfl⟩ := hn.slice
  exact ⟨_, rfl, rfl, all2 rfl rfl, noInt2 _ _ _ _⟩
def PP.frZd {S : Nat} (z : Int) : PP S := ⟨false, fun u w => FrZd S w u z, fun _ _ _ h hp => hp.ext h, fun _ _ hg _ _ _ h hp => hp.chg h hg⟩
def PA.frZd {S : Nat} (z : Int) : PA S := ⟨fun u w => FrZd S w u z, fun _ _ _ h hp => hp.ext h, fun _ _ _ h hp => hp.schg h⟩
def PA.frD {S : Nat} (n : Nat) : PA S := ⟨fun u w => FrN 3 .i64 TK S w u n, fun _ _ _ h hp => hp.ext h, fun _ _ _ h hp => hp.schg h (.inr rfl)⟩

set_option maxRecDepth 100000 in
set_option maxHeartbeats 1000000 in
theorem FrL.slice {e : TypeId} {k : IntKind} {B0 : Nat} {w : World} {v : Value} {xs : List Nat} (h : FrL e k B0 w v xs) : ∃ ad cap, v = .slice ad xs.length cap := by
  obtain ⟨ad, cap, rfl, _⟩ := h
  exact ⟨ad, cap, rfl⟩
set_option maxRecDepth 100000 in
set_option maxHeartbeats 1000000 in
theorem FrL.schg {S : Nat} {w1 w2 : World} {e : TypeId} {k : IntKind} {B0 : Nat} {v : Value} {xs : List Nat} (h : FrL e k B0 w1 v xs) (hc : SChg S w1 w2) (he : e = 79 ∨ e = 3) : FrL e k B0 w2 v xs := by
  obtain ⟨ad, cap, h1, h2, h3, h4⟩ := h
  exact ⟨ad, cap, h1, h2, h3, h4.schg hc he⟩
/-- New memory that reads as the words xs. -/
def PP.frLw {S : Nat} (xs : List Nat) : PP S := ⟨false, fun u w => FrL 79 .u64 S w u xs, fun _ _ _ h hp => hp.ext h, fun _ _ hg _ _ _ h hp => hp.chg h hg⟩
def PA.frLw {S : Nat} (xs : List Nat) : PA S := ⟨fun u w => FrL 79 .u64 S w u xs, fun _ _ _ h hp => hp.ext h, fun _ _ _ h hp => hp.schg h (.inl rfl)⟩
/-- A sign and new memory that reads as the words xs. -/
def FrI (B0 : Nat) (w : World) (v : Value) (b : Bool) (xs : List Nat) : Prop := ∃ s, v = .agg #[.bool b, s] ∧ FrL 79 .u64 B0 w s xs
def PP.frI {S : Nat} (b : Bool) (xs : List Nat) : PP S := ⟨false, fun u w => FrI S w u b xs, fun _ _ _ h hp => (let ⟨v, h1, h2⟩ := hp; ⟨v, h1, h2.ext h⟩), fun _ _ hg _ _ _ h hp => (let ⟨v, h1, h2⟩ := hp; ⟨v, h1, h2.chg h hg⟩)⟩
def PA.frI {S : Nat} (b : Bool) (xs : List Nat) : PA S := ⟨fun u w => FrI S w u b xs, fun _ _ _ h hp => (let ⟨v, h1, h2⟩ := hp; ⟨v, h1, h2.ext h⟩), fun _ _ _ h hp => (let ⟨v, h1, h2⟩ := hp; ⟨v, h1, h2.schg h (.inl rfl)⟩)⟩
set_option maxRecDepth 100000 in
set_option maxHeartbeats 1000000 in
theorem FrI.parts {B0 : Nat} {w : World} {v : Value} {b : Bool} {xs : List Nat} (h : FrI B0 w v b xs) : ∃ cells, v = .agg cells ∧ cells.size = 2 ∧ cells.all (·.oneCell') = true ∧ NoInt cells := by
  obtain ⟨s, rfl, hn⟩ := h
  obtain ⟨ad, cap, rfl⟩ := hn.slice
  exact ⟨_, rfl, rfl, all2 rfl rfl, noInt2 _ _ _ _⟩

set_option maxRecDepth 100000 in
set_option maxHeartbeats 1000000 in
theorem form_calls2 (b : Bool) (s : Value) (n : Nat) (w : World) (hs : IsN .i64 TK w s n) :
    Calls Try.prog 58 #[.bool b, s] w fun e w' => ∃ v', e = .returned v' ∧ FrZd w.heap.size w' v' (sgn b n) ∧ Ext w w' := by
  go_enter Try.func58, Try.ntmps58
  go_wp2_with fail
  obtain ⟨w1, hw1, e1, b1, s1⟩ := alloc1 w #[.bool false, .slice none 0 0] 34
  rw [← hw1]
  refine (rtrim_calls s n _ (hs.ext e1)).mono ?_
  rintro e w2 ⟨va, rfl, ha, hext⟩
  have hb := b1.ext hext
  have hn0 := @szT_zero n
  have Ha := Lib.hid ha
  obtain ⟨ad, cap, rfl, hl, hc, ho⟩ := ha
  have hc0 := hb.cell 0
  have hc1 := hb.cell 1
  have hf0 := hb.free 0
  have hf1 := hb.free 1
  go_wp2_with fail
  all_goals
    refine ret_box 4 34 w.heap.size 34 _ _ (by kernel_rfl) rfl ((hb.set 0 _).set 1 _) Try.underlying34 rfl (by kernel_rfl) rfl ?_
    refine ⟨_, rfl, ⟨.slice ad (dg TK n).length cap, ?_, ?_⟩, (e1.trans hext).step (Chg.trans (Chg.setCell _ w.heap.size 0 _) (Chg.setCell _ w.heap.size 1 _)) (Nat.le_refl _)⟩
    rotate_left
    · rw [sgn_natAbs]
      exact (Ha.out.chg (Chg.trans (Chg.setCell _ w.heap.size 0 _) (Chg.setCell _ w.heap.size 1 _)) (by omega)).mono (by omega)
  all_goals
    have hd : (0 < (dg TK n).length) ↔ 0 < n := by unfold sz at hn0; omega
    simp_all [sgn_lt]

set_option maxRecDepth 100000 in
set_option maxHeartbeats 1000000 in
theorem zof2_calls (v : Value) (z : Int) (w : World) (hv : IsZ w v z) (hsz : szT z ≤ 68719476736) :
    Calls Try.prog 14 #[v] w fun e w' => ∃ v', e = .returned v' ∧ FrZd w.heap.size w' v' z ∧ Ext w w' := by
  obtain ⟨b, s, n, rfl, hs, hz⟩ := hv
  have hsn : sz TK n ≤ 68719476736 := by rw [hz] at hsz; unfold szT at hsz; rwa [sgn_natAbs] at hsz
  go_enter Try.func14, Try.ntmps14
  go_wp2_with fail
  obtain ⟨w1, hw1, e1, b1, b2, s1⟩ := alloc2 w #[.bool b, s] #[.bool false, .slice none 0 0] 24 34
  rw [← hw1]
  clear hw1
  refine wp_region_puts [⟨6, (w.heap.size + 1), 34, PP.frZd (sgn b n)⟩] [PP.val (.pointer (some ⟨w.heap.size, 0, none⟩)), PP.val (.bool b), PP.val (.pointer (some ⟨w.heap.size, 1, none⟩)), PP.val (s), PP.frN 3 .i64 TK n, PP.frZd (sgn b n), PP.any] [] [6, 5, 4, 3, 2, 1, 0]
    (by kernel_rfl) (by kernel_rfl) (fun f => (by simp only [fillR, fillL, List.setIfInBounds_toArray, List.set_cons_succ, List.set_cons_zero, Nat.reduceAdd]; rfl)) ?_ ?_ ?_ ?_ ?_
  · intro x hx; simp only [List.mem_singleton] at hx; subst hx; exact ⟨by show (w.heap.size + 1) < w1.heap.size; omega, rfl⟩
  · intro x hx; simp only [List.mem_singleton] at hx; subst hx; rfl
  · intro x hx y hy h; simp only [List.mem_singleton] at hx hy; subst hx hy; exact absurd rfl h
  · refine ⟨?o0, ?o1, ?o2, ?o3, ?o4, ?o5, ?o6, trivial⟩
    case o0 =>
      intro f w2 hG hp hl
      have hE : Ext w1 w2 := hG
      have hS := hE.size
      simp only [OpGoal]
      go_simp
      exact ⟨_, rfl, Ext.refl _, rfl⟩
    case o1 =>
      intro f w2 hG hp hl
      have hE : Ext w1 w2 := hG
      have hS := hE.size
      have q3 : f 0 = .pointer (some ⟨w.heap.size, 0, none⟩) := tellV hp 0 0 rfl rfl (fun h => by cases h)
      have hcell := (b1.ext hE).cell 0
      simp only [OpGoal]
      go_simp
      exact ⟨_, rfl, Ext.refl _, rfl⟩
    case o2 =>
      intro f w2 hG hp hl
      have hE : Ext w1 w2 := hG
      have hS := hE.size
      simp only [OpGoal]
      go_simp
      exact ⟨_, rfl, Ext.refl _, rfl⟩
    case o3 =>
      intro f w2 hG hp hl
      have hE : Ext w1 w2 := hG
      have hS := hE.size
      have q5 : f 2 = .pointer (some ⟨w.heap.size, 1, none⟩) := tellV hp 0 2 rfl rfl (fun h => by cases h)
      have hcell := (b1.ext hE).cell 1
      simp only [OpGoal]
      go_simp
      exact ⟨_, rfl, Ext.refl _, rfl⟩
    case o4 =>
      intro f w2 hG hp hl
      have hE : Ext w1 w2 := hG
      have hS := hE.size
      have q6 : f 3 = s := tellV hp 0 3 rfl rfl (fun h => by cases h)
      change OpGoal _ _ _ f w2 Ext _
      refine og_call (P := Try.prog) _ _ _ #[f 3] Try.func59 (by kernel_rfl) (by kernel_rfl) rfl rfl (by kernel_rfl) ?_
      rw [q6]
      refine (rof01_calls _ n _ (hs.ext (e1.trans hE)) hsn).mono ?_
      rintro e w' ⟨v', rfl, h1, h2⟩
      exact ⟨v', rfl, h2, h1.mono hS⟩
    case o5 =>
      intro f w2 hG hp hl
      have hE : Ext w1 w2 := hG
      have hS := hE.size
      have q4 : f 1 = .bool b := tellV hp 0 1 rfl rfl (fun h => by cases h)
      have q7 := tellV hp 1 4 rfl rfl (fun _ => hE)
      change OpGoal _ _ _ f w2 Ext _
      refine og_call (P := Try.prog) _ _ _ #[f 1, f 4] Try.func58 (by kernel_rfl) (by kernel_rfl) rfl rfl (by kernel_rfl) ?_
      rw [q4]
      refine (form_calls2 _ _ _ _ (q7.isC.isN TK_gt (by (first | rw [LIM_eq] | rw [LIM_eqT]); omega))).mono ?_
      rintro e w' ⟨v', rfl, h1, h2⟩
      exact ⟨v', rfl, h2, h1.mono hS⟩
    case o6 =>
      intro f w2 hG hp hl
      have hE : Ext w1 w2 := hG
      have hS := hE.size
      have q8 := tellV hp 0 5 rfl rfl (fun _ => hE)
      intro hg0
      change OpGoal _ _ _ f w2 (Chg _) _
      obtain ⟨s', hv, hn⟩ := q8
      exact og_store (P := Try.prog) _ _ _ (w.heap.size + 1) _ _ _ (PP.frZd _ : PP _).p rfl rfl rfl hv (show Bx 34 w2 _ _ from hg0.trans b2) (by kernel_rfl) rfl (all2 rfl hn.oneCell) (fun w' h => ⟨s', rfl, hn.chg h (by omega)⟩)
  · intro f w2 hG hp
    obtain ⟨cs0, hbx0, hz0⟩ : ∃ cs, Bx 34 w2 (w.heap.size + 1) cs ∧ (PP.frZd (sgn b n) : PP w1.heap.size).p (.agg cs) w2 := endS hp 6 (by decide)
    clear hp
    have hz1 := hz0.mono (show w.heap.size ≤ _ by omega)
    obtain ⟨s', hv, hn⟩ := hz0
    cases hv
    go_wp2
    refine ret_box 2 34 (w.heap.size + 1) 34 _ _ (by kernel_rfl) rfl hbx0 Try.underlying34 rfl (by kernel_rfl) rfl ?_
    rw [hz]
    exact ⟨_, rfl, hz1, e1.stepS hG (by simp)⟩

set_option maxRecDepth 100000 in
set_option maxHeartbeats 1000000 in
theorem zsmall2_calls (z : Int) (w : World) (h0 : -9223372036854775808 ≤ z) (h1 : z ≤ 9223372036854775807) :
    Calls Try.prog 53 #[.int .i64 z] w fun e w' => ∃ v', e = .returned v' ∧ FrZd w.heap.size w' v' z ∧ Ext w w' := by
  go_enter Try.func53, Try.ntmps53
  rcases (show 0 ≤ z ∨ z < 0 by omega) with h | h
  · have hn := Lib.hid (show z = (z.natAbs : Int) by omega)
    have hz : sgn false z.natAbs = z := by simp only [sgn, if_false, Bool.false_eq_true]; omega
    have hb : z.natAbs ≤ 9223372036854775807 := by omega
    go_wp2_with fail
    obtain ⟨w1, hw1, e1, b1, s1⟩ := alloc1 w #[.bool false, .slice none 0 0] 34
    rw [← hw1]
    rw [show (#[Value.int .i64 z]) = #[.int .i64 (z.natAbs : Int)] by rw [← hn.out]]
    refine (rsmall_calls z.natAbs _ hb).mono ?_
    rintro e w2 ⟨v1, rfl, hs1, e2⟩
    go_wp2_with fail
    refine (form_calls2 false _ z.natAbs _ (hs1.isC.isN TK_gt (by have := dg_small_len hb; unfold sz; (first | rw [LIM_eq] | rw [LIM_eqT]); omega))).mono ?_
    rw [hz]
    rintro e w3 ⟨v', rfl, hz, hext⟩
    have es2 := e2.size
    have e3 := (e1.trans e2).trans hext
    obtain ⟨s', rfl, hn⟩ := hz
    obtain ⟨ad, cap, rfl⟩ := hn.slice
    have Hn := Lib.hid hn
    clear hn
    have hb := (b1.ext e2).ext hext
    have hc0 := hb.cell 0
    have hc1 := hb.cell 1
    have hf0 := hb.free 0
    have hf1 := hb.free 1
    go_wp2
    refine ret_box 2 34 w.heap.size 34 _ _ (by kernel_rfl) rfl ((hb.set 0 _).set 1 _) Try.underlying34 rfl (by kernel_rfl) rfl ?_
    exact ⟨_, rfl, ⟨_, (by first | rfl | simp_all), (Hn.out.chg (Chg.trans (Chg.setCell _ w.heap.size 0 _) (Chg.setCell _ w.heap.size 1 _)) (by omega)).mono (by omega)⟩, (e3).step (Chg.trans (Chg.setCell _ w.heap.size 0 _) (Chg.setCell _ w.heap.size 1 _)) (by omega)⟩
  · obtain ⟨m, hm⟩ : ∃ m : Nat, -(z + 1) = (m : Int) := ⟨(-(z + 1)).toNat, by omega⟩
    have hz : sgn true (m + 1) = z := by simp only [sgn, if_true]; omega
    have hb : m ≤ 9223372036854775807 := by omega
    have hs5 := dg_small_len hb
    have hs6 : sz TK (m + 1) ≤ 5 := by
      refine dg_len_le TK_gt ?_
      rw [TK_eq]
      have : (10000 : Nat) ^ 5 = 100000000000000000000 := by decide
      omega
    have hge : ¬ 0 ≤ z := by omega
    go_wp2_with fail
    obtain ⟨w1, hw1, e1, b1, s1⟩ := alloc1 w #[.bool false, .slice none 0 0] 34
    rw [← hw1]
    refine (rsmall_calls m _ hb).mono ?_
    rintro e w2 ⟨v1, rfl, hs1, e2⟩
    go_wp2_with fail
    have e3 := (Ext.refl w2).alloc (.cells #[.int .i64 1] 3)
    have hone := isN_one (k := .i64) (B := TK) w2 1 3 (by rw [TK_eq]; omega)
    refine (radd01_calls _ _ m 1 _ ((hs1.ext e3).isC.isN TK_gt (by unfold sz; (first | rw [LIM_eq] | rw [LIM_eqT]); omega)) hone (by unfold sz; omega) (by rw [show sz TK 1 = 1 from rfl]; omega)).mono ?_
    rintro e w4 ⟨v2, rfl, hs2, e4⟩
    go_wp2_with fail
    refine (form_calls2 true _ (m + 1) _ (hs2.isC.isN TK_gt (by (first | rw [LIM_eq] | rw [LIM_eqT]); omega))).mono ?_
    rw [hz]
    rintro e w5 ⟨v', rfl, hz, hext⟩
    have es2 := e2.size
    have es4 := (e3.trans e4).size
    have e6 := ((e1.trans e2).trans (e3.trans e4)).trans hext
    obtain ⟨s', rfl, hn⟩ := hz
    obtain ⟨ad, cap, rfl⟩ := hn.slice
    have Hn := Lib.hid hn
    clear hn
    have hb := (b1.ext (e2.trans (e3.trans e4))).ext hext
    have hc0 := hb.cell 0
    have hc1 := hb.cell 1
    have hf0 := hb.free 0
    have hf1 := hb.free 1
    go_wp2
    refine ret_box 2 34 w.heap.size 34 _ _ (by kernel_rfl) rfl ((hb.set 0 _).set 1 _) Try.underlying34 rfl (by kernel_rfl) rfl ?_
    exact ⟨_, rfl, ⟨_, (by first | rfl | simp_all), (Hn.out.chg (Chg.trans (Chg.setCell _ w.heap.size 0 _) (Chg.setCell _ w.heap.size 1 _)) (by omega)).mono (by omega)⟩, (e6).step (Chg.trans (Chg.setCell _ w.heap.size 0 _) (Chg.setCell _ w.heap.size 1 _)) (by omega)⟩

set_option maxRecDepth 100000 in
set_option maxHeartbeats 1000000 in
theorem zsign2_calls (v : Value) (z : Int) (w : World) (hv : CZ w v z) :
    Calls Try.prog 20 #[v] w fun e w' => e = .returned (.int .i64 z.sign) ∧ Ext w w' := by
  obtain ⟨s, rfl, hs⟩ := hv
  obtain ⟨ad, cap, rfl⟩ := hs.slice
  have hz := @szT_zero z.natAbs
  have Cz := Lib.hid (sign_cases z)
  have hz2 : sz TK z.natAbs = 0 ↔ z = 0 := by rw [hz]; omega
  clear hz
  go_enter Try.func20, Try.ntmps20
  obtain ⟨w1, hw1, e1, b1, s1⟩ := alloc1 w #[.bool (decide (z < 0)), .slice ad (sz TK z.natAbs) cap] 34
  have hc0 := b1.cell 0
  have hc1 := b1.cell 1
  rw [hw1] at hc0 hc1
  rcases (show z = 0 ∨ z < 0 ∨ 0 < z by omega) with h | h | h
  · have h0 : sz TK z.natAbs = 0 := hz2.2 h
    subst h
    rw [show (0 : Int).natAbs = 0 from rfl] at *
    go_wp2
    go_ret
    exact ⟨rfl, (Ext.refl w).alloc _⟩
  · have h0 : ¬ sz TK z.natAbs = 0 := fun e => by have := hz2.1 e; omega
    clear hz2
    go_wp2
    go_ret
    exact ⟨by rw [Int.sign_eq_neg_one_of_neg h]; rfl, (Ext.refl w).alloc _⟩
  · have h0 : ¬ sz TK z.natAbs = 0 := fun e => by have := hz2.1 e; omega
    have h1 : ¬ z < 0 := by omega
    clear hz2
    go_wp2
    go_ret
    exact ⟨by rw [Int.sign_eq_one_of_pos h]; rfl, (Ext.refl w).alloc _⟩

set_option maxRecDepth 100000 in
set_option maxHeartbeats 1000000 in
theorem zneg2_calls (v : Value) (z : Int) (w : World) (hv : CZ w v z) (hsz : szT z ≤ 68719476736) :
    Calls Try.prog 70 #[v] w fun e w' => ∃ v', e = .returned v' ∧ FrZd w.heap.size w' v' (-z) ∧ Ext w w' := by
  obtain ⟨s, rfl, hs⟩ := hv
  have hng : sgn (!decide (z < 0)) z.natAbs = -z := by rw [sgn_not, sgn_self]
  unfold szT at hsz
  go_enter Try.func70, Try.ntmps70
  obtain ⟨w1, hw1, e1, b1, b2, s1⟩ := alloc2 w #[.bool (decide (z < 0)), s] #[.bool false, .slice none 0 0] 34 34
  have hc0 := b1.cell 0
  have hc1 := b1.cell 1
  rw [hw1] at hc0 hc1
  go_wp2_with fail
  rw [← hw1]
  clear hc0 hc1
  refine (form_calls2 (!decide (z < 0)) s z.natAbs _ ((hs.isN TK_gt (by (first | rw [LIM_eq] | rw [LIM_eqT]); omega)).ext e1)).mono ?_
  rw [hng]
  rintro e w2 ⟨v', rfl, hz, hext⟩
  obtain ⟨s', rfl, hn⟩ := hz
  obtain ⟨ad, cap, rfl⟩ := hn.slice
  have Hn := Lib.hid hn
  clear hn
  have hb := b2.ext hext
  have hc0 := hb.cell 0
  have hc1 := hb.cell 1
  have hf0 := hb.free 0
  have hf1 := hb.free 1
  go_wp2
  refine ret_box 2 34 (w.heap.size + 1) 34 _ _ (by kernel_rfl) rfl ((hb.set 0 _).set 1 _) Try.underlying34 rfl (by kernel_rfl) rfl ?_
  exact ⟨_, rfl, ⟨_, (by first | rfl | simp_all), (Hn.out.chg (Chg.trans (Chg.setCell _ (w.heap.size + 1) 0 _) (Chg.setCell _ (w.heap.size + 1) 1 _)) (by omega)).mono (by omega)⟩, (e1.trans hext).step (Chg.trans (Chg.setCell _ (w.heap.size + 1) 0 _) (Chg.setCell _ (w.heap.size + 1) 1 _)) (by omega)⟩
end Go.Proofs.Ytnefipinicfegaa
