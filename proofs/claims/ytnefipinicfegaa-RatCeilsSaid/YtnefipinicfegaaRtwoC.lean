/-
  The document's whole numbers, walked (III): quotients, rounded down, by what is above 0.
-/
import Derived.Test.YtnefipinicfegaaRtwoB
namespace Go.Proofs.Ytnefipinicfegaa
open Go.RowKit
set_option linter.unusedVariables false
set_option linter.unusedSimpArgs false

set_option maxRecDepth 100000 in
set_option maxHeartbeats 1000000 in
/-- Two structs handed back. -/
theorem ret_two {P : Program} {fn : Func} {R : Ending → World → Prop} {a : Act} {w : World} (p q : Tmp) (ty ty2 : TypeId) (g g2 : Nat) (t t2 : TypeId) (cs cs2 : Array Value) (d d2 : TypeDesc) (h : fn.results = #[.cell p ty, .cell q ty2]) (hp : a.tmps.getD p undef = .pointer (some ⟨g, 0, none⟩)) (hq : a.tmps.getD q undef = .pointer (some ⟨g2, 0, none⟩)) (hg : Bx t w g cs) (hg2 : Bx t2 w g2 cs2)
    (hu : P.underlying ty = some d) (hd : (match d with | .struct _ | .array _ _ => true | _ => false) = true) (hi : (P.info? ty).map (·.size) = some cs.size)
    (hu2 : P.underlying ty2 = some d2) (hd2 : (match d2 with | .struct _ | .array _ _ => true | _ => false) = true) (hi2 : (P.info? ty2).map (·.size) = some cs2.size) (hdf : a.defers = []) (hR : R (.returned (.tuple #[.agg cs, .agg cs2])) w) : bodyPost P fn R .ret a w := by
  refine bodyPost_ret (v := .tuple #[.agg cs, .agg cs2]) ?_ hdf hR
  have hp' : a.tmps[p]?.getD undef = .pointer (some ⟨g, 0, none⟩) := by simpa using hp
  have hq' : a.tmps[q]?.getD undef = .pointer (some ⟨g2, 0, none⟩) := by simpa using hq
  simp [results, h, hp', hq', asAddr, run_loadVar_row w g t ty cs _ d hg hu hd hi, run_loadVar_row w g2 t2 ty2 cs2 _ d2 hg2 hu2 hd2 hi2]
set_option maxRecDepth 100000 in
set_option maxHeartbeats 1000000 in
theorem alloc5 (w : World) (A B C D F : Array Value) (ta tb tc td tf : TypeId) : ∃ w1, w1 = ((((w.alloc (.cells A ta)).alloc (.cells B tb)).alloc (.cells C tc)).alloc (.cells D td)).alloc (.cells F tf) ∧ Ext w w1 ∧ Bx ta w1 w.heap.size A ∧ Bx tb w1 (w.heap.size + 1) B ∧ Bx tc w1 (w.heap.size + 2) C ∧ Bx td w1 (w.heap.size + 3) D ∧ Bx tf w1 (w.heap.size + 4) F ∧ w1.heap.size = w.heap.size + 5 := by
  obtain ⟨w1, h1, e1, b1, b2, b3, b4, s1⟩ := alloc4 w A B C D ta tb tc td
  rw [← h1]
  obtain ⟨w2, h2, e2, b5, s2⟩ := alloc1 w1 F tf
  rw [s1] at b5 s2
  exact ⟨w2, h2, e1.trans e2, b1.ext e2, b2.ext e2, b3.ext e2, b4.ext e2, b5, s2⟩

set_option maxRecDepth 100000 in
set_option maxHeartbeats 4000000 in
theorem zdivfloor2_calls (v t : Value) (x : Int) (y : Nat) (w : World) (hv : CZ w v x) (ht : IsC .i64 TK w t y) (hy : 0 < y) (hsx : szT x ≤ 34359738368) (hsy : sz TK y ≤ 34359738300) :
    Calls Try.prog 69 #[v, .agg #[.bool false, t]] w fun e w' => ∃ v1 v2, e = .returned (.tuple #[v1, v2]) ∧ FrZd w.heap.size w' v1 (x / (y : Int)) ∧ FrZd w.heap.size w' v2 (x % (y : Int)) ∧ Ext w w' := by
  have hV := Lib.hid hv
  have hbx := Lib.hid (show ∃ s, v = .agg #[.bool (decide (x < 0)), s] from hv.imp fun _ h => h.1)
  obtain ⟨b, s, n, rfl, hs, hx⟩ := hv.parts
  have hsn : sz TK n ≤ 34359738368 := by rw [hx, szT_sgn] at hsx; exact hsx
  have hsN := hs.isN TK_gt (by (first | rw [LIM_eq] | rw [LIM_eqT]); omega)
  have htN := ht.isN TK_gt (by (first | rw [LIM_eq] | rw [LIM_eqT]); omega)
  obtain ⟨ads, caps, rfl⟩ := hs.slice
  clear hv
  have Hs := Lib.hid hs
  have HsN := Lib.hid hsN
  clear hs hsN
  go_enter Try.func69, Try.ntmps69
  go_wp2_with fail
  obtain ⟨w1, hw1, e1, b1, b2, b3, b4, b6, s1⟩ := alloc5 w #[.bool b, .slice ads (sz TK n) caps] #[.bool false, t] #[.bool false, .slice none 0 0] #[.bool false, .slice none 0 0] #[.bool b, .slice ads (sz TK n) caps] 34 34 34 34 34
  rw [← hw1]
  clear hw1
  refine (rdm01_calls _ _ n y _ (HsN.out.ext e1) (htN.ext e1) hy (by omega)).mono ?_
  rintro e w2 ⟨vq, vr, rfl, hq, hr, e2⟩
  go_wp2_with fail
  have hqs : sz TK (n / y) ≤ 34359738368 := Nat.le_trans (dg_len_mono TK_gt (Nat.div_le_self n y)) hsn
  have hqN := hq.isC.isN TK_gt (by (first | rw [LIM_eq] | rw [LIM_eqT]); omega)
  refine (form_calls2 _ vq (n / y) _ hqN).mono ?_
  rintro e w3 ⟨vz, rfl, hz, e3⟩
  obtain ⟨s', rfl, hn⟩ := hz
  obtain ⟨ad, cap, rfl⟩ := hn.slice
  obtain ⟨adr, capr, rfl⟩ := hr.slice
  have Hn := Lib.hid hn
  have Hr := Lib.hid hr
  have hrz := @szT_zero (n % y)
  clear hn hr
  have hY : CZ w (.agg #[.bool false, t]) (y : Int) := ⟨t, by rw [decide_eq_false (by omega)], ht⟩
  have hszy : szT (y : Int) = sz TK y := rfl
  obtain ⟨w4, hw4, e4, b5, s4⟩ := alloc1 w3 #[.bool (decide (sgn false (n / y) < 0)), .slice ad (sz TK (sgn false (n / y)).natAbs) cap] 34
  have E := ((e1.trans e2).trans e3).trans e4
  have B1 := ((b1.ext e2).ext e3).ext e4
  have B2 := ((b2.ext e2).ext e3).ext e4
  have B3 := ((b3.ext e2).ext e3).ext e4
  have B4 := ((b4.ext e2).ext e3).ext e4
  have B6 := ((b6.ext e2).ext e3).ext e4
  have hsz2 := e2.size
  have hsz3 := e3.size
  have hd0 := B6.cell 0
  have hfl := floor_fix x y hy
  have hxn : x.natAbs = n := by rw [hx, sgn_natAbs]
  have hsg : sgn (decide (x < 0)) n = x := by rw [← hxn]; exact sgn_self x
  rw [hw4] at hd0
  cases b
  · have hx0 : x / (y : Int) = sgn false (n / y) := by
      have : ¬ x < 0 := by rw [hx, sgn_lt]; simp
      rw [hfl, if_neg (by omega), hxn, decide_eq_false this]
    have Hx := Lib.hid hx
    have Hsg := Lib.hid hsg
    have Hfl := Lib.hid hfl
    clear hx hsg hfl
    go_wp2_with fail
    rw [← hw4]
    have Hq : FrZd (w.heap.size + 4) w4 _ (sgn false (n / y)) := ⟨_, rfl, (Hn.out.ext e4).mono (by omega)⟩
    have Hsz : szT (sgn false (n / y)) ≤ 34359738370 := by rw [szT_sgn]; omega
    have O10 : (Value.slice ad (sz TK (sgn false (n / y)).natAbs) cap).oneCell' = true := rfl
    have B5 := b5
    have S := s1
    refine wp_region_puts [⟨6, (w.heap.size + 2), 34, PP.val (.agg #[.bool (decide (sgn false (n / y) < 0)), .slice ad (sz TK (sgn false (n / y)).natAbs) cap])⟩, ⟨7, (w.heap.size + 3), 34, PP.frZd (x - sgn false (n / y) * (y : Int))⟩] [PP.val (.agg #[.bool (decide (sgn false (n / y) < 0)), .slice ad (sz TK (sgn false (n / y)).natAbs) cap]), PP.val (.agg #[.bool false, .slice ads (sz TK n) caps]), PP.val (.agg #[.bool (decide (sgn false (n / y) < 0)), .slice ad (sz TK (sgn false (n / y)).natAbs) cap]), PP.val (.agg #[.bool false, t]), PP.frZd (sgn false (n / y) * (y : Int)), PP.frZd (x - sgn false (n / y) * (y : Int)), PP.any, PP.any] [] [6, 5, 4, 3, 2, 1, 0]
      (by kernel_rfl) (by kernel_rfl) (fun f => (by simp only [fillR, fillL, List.setIfInBounds_toArray, List.set_cons_succ, List.set_cons_zero, Nat.reduceAdd]; rfl)) ?_ ?_ ?_ ?_ ?_
    · intro x hx; simp only [List.mem_cons, List.not_mem_nil, or_false] at hx; rcases hx with rfl | rfl
      · exact ⟨by show (w.heap.size + 2) < w4.heap.size; omega, rfl⟩
      · exact ⟨by show (w.heap.size + 3) < w4.heap.size; omega, rfl⟩
    · intro x hx; simp only [List.mem_cons, List.not_mem_nil, or_false] at hx; rcases hx with rfl | rfl <;> rfl
    · intro x hx y hy h; simp only [List.mem_cons, List.not_mem_nil, or_false] at hx hy; rcases hx with rfl | rfl <;> rcases hy with rfl | rfl
      · exact absurd rfl h
      · show (w.heap.size + 2) ≠ (w.heap.size + 3); omega
      · show (w.heap.size + 3) ≠ (w.heap.size + 2); omega
      · exact absurd rfl h
    · refine ⟨?o0, ?o1, ?o2, ?o3, ?o4, ?o5, ?o6, ?o7, trivial⟩
      case o0 =>
        intro f w2 hG hp hl
        have hE : Ext w4 w2 := hG
        have hS := hE.size
        change OpGoal _ _ _ f w2 Ext _
        exact og_load (P := Try.prog) _ _ w3.heap.size _ _ _ rfl rfl rfl (B5.ext hE) Try.underlying34 rfl (by kernel_rfl) rfl
      case o1 =>
        intro f w2 hG hp hl
        have hE : Ext w4 w2 := hG
        have hS := hE.size
        change OpGoal _ _ _ f w2 Ext _
        exact og_load (P := Try.prog) _ _ w.heap.size _ _ _ rfl rfl rfl (B1.ext hE) Try.underlying34 rfl (by kernel_rfl) rfl
      case o2 =>
        intro f w2 hG hp hl
        have hE : Ext w4 w2 := hG
        have hS := hE.size
        change OpGoal _ _ _ f w2 Ext _
        exact og_load (P := Try.prog) _ _ w3.heap.size _ _ _ rfl rfl rfl (B5.ext hE) Try.underlying34 rfl (by kernel_rfl) rfl
      case o3 =>
        intro f w2 hG hp hl
        have hE : Ext w4 w2 := hG
        have hS := hE.size
        change OpGoal _ _ _ f w2 Ext _
        exact og_load (P := Try.prog) _ _ (w.heap.size + 1) _ _ _ rfl rfl rfl (B2.ext hE) Try.underlying34 rfl (by kernel_rfl) rfl
      case o4 =>
        intro f w2 hG hp hl
        have hE : Ext w4 w2 := hG
        have hS := hE.size
        have q37 : f 2 = .agg #[.bool (decide (sgn false (n / y) < 0)), .slice ad (sz TK (sgn false (n / y)).natAbs) cap] := tellV hp 0 2 rfl rfl (fun h => by cases h)
        have q38 : f 3 = .agg #[.bool false, t] := tellV hp 1 3 rfl rfl (fun h => by cases h)
        change OpGoal _ _ _ f w2 Ext _
        refine og_call (P := Try.prog) _ _ _ #[f 2, f 3] Try.func80 (by kernel_rfl) (by kernel_rfl) rfl rfl (by kernel_rfl) ?_
        rw [q37, q38]
        refine (zmul2_calls _ _ (sgn false (n / y)) (y : Int) _ (Hq.cz.ext hE) (hY.ext (E.trans hE)) (by omega) (by rw [hszy]; omega)).mono ?_
        rintro e w' ⟨v', rfl, h1, h2⟩
        exact ⟨v', rfl, h2, h1.mono hS⟩
      case o5 =>
        intro f w2 hG hp hl
        have hE : Ext w4 w2 := hG
        have hS := hE.size
        have q36 : f 1 = .agg #[.bool false, .slice ads (sz TK n) caps] := tellV hp 0 1 rfl rfl (fun h => by cases h)
        have q39 := tellV hp 1 4 rfl rfl (fun _ => hE)
        change OpGoal _ _ _ f w2 Ext _
        refine og_call (P := Try.prog) _ _ _ #[f 1, f 4] Try.func93 (by kernel_rfl) (by kernel_rfl) rfl rfl (by kernel_rfl) ?_
        rw [q36]
        refine (zsub2_calls _ _ x (sgn false (n / y) * (y : Int)) _ (hV.out.ext (E.trans hE)) q39.cz (by omega) (by have := szT_mul (sgn false (n / y)) (y : Int); omega)).mono ?_
        rintro e w' ⟨v', rfl, h1, h2⟩
        exact ⟨v', rfl, h2, h1.mono hS⟩
      case o6 =>
        intro f w2 hG hp hl
        have hE : Ext w4 w2 := hG
        have hS := hE.size
        have q35 : f 0 = .agg #[.bool (decide (sgn false (n / y) < 0)), .slice ad (sz TK (sgn false (n / y)).natAbs) cap] := tellV hp 0 0 rfl rfl (fun h => by cases h)
        intro hg0
        change OpGoal _ _ _ f w2 (Chg _) _
        exact og_store (P := Try.prog) _ _ _ (w.heap.size + 2) _ _ _ (PP.val _ : PP _).p rfl rfl rfl q35 (show Bx 34 w2 _ _ from hg0.trans B3) (by kernel_rfl) rfl (all2 rfl O10) (fun w' h => rfl)
      case o7 =>
        intro f w2 hG hp hl
        have hS : w4.heap.size ≤ w2.heap.size := hG.2.2.2.1
        have q40 := tellV hp 0 5 rfl rfl (fun _ => by contradiction)
        intro hg0
        change OpGoal _ _ _ f w2 (Chg _) _
        obtain ⟨s', hv, hn⟩ := q40
        exact og_store (P := Try.prog) _ _ _ (w.heap.size + 3) _ _ _ (PP.frZd _ : PP _).p rfl rfl rfl hv (show Bx 34 w2 _ _ from hg0.trans B4) (by kernel_rfl) rfl (all2 rfl hn.oneCell) (fun w' h => ⟨s', rfl, hn.chg h (by omega)⟩)
    · intro f w2 hG hp
      obtain ⟨cs0, hbx0, hz0⟩ : ∃ cs, Bx 34 w2 (w.heap.size + 2) cs ∧ (PP.val (.agg #[.bool (decide (sgn false (n / y) < 0)), .slice ad (sz TK (sgn false (n / y)).natAbs) cap]) : PP w4.heap.size).p (.agg cs) w2 := endS hp 6 (by decide)
      obtain ⟨cs1, hbx1, hz1⟩ : ∃ cs, Bx 34 w2 (w.heap.size + 3) cs ∧ (PP.frZd (x - sgn false (n / y) * (y : Int)) : PP w4.heap.size).p (.agg cs) w2 := endS hp 7 (by decide)
      clear hp
      have hz2 := hz1.mono (show w.heap.size ≤ _ by omega)
      obtain ⟨s', hv, hn⟩ := hz1
      cases hv
      cases hz0
      go_wp2
      have hm : x % (y : Int) = x - sgn false (n / y) * (y : Int) := by rw [Int.emod_def, hx0, Int.mul_comm]
      refine ret_two 4 5 34 34 (w.heap.size + 2) (w.heap.size + 3) 34 34 _ _ _ _ (by kernel_rfl) rfl rfl hbx0 hbx1 Try.underlying34 rfl (by kernel_rfl) Try.underlying34 rfl (by kernel_rfl) rfl ?_
      refine ⟨_, _, rfl, ?_, ?_, E.stepS hG (by simp)⟩
      · rw [hx0]; exact (Hq.chgS hG (by simp)).mono (by omega)
      · rw [hm]; exact hz2
  · have hx0' : x / (y : Int) = if 0 < n % y then sgn true (n / y) - 1 else sgn true (n / y) := by
      rw [hfl, hxn]
      rcases Nat.eq_zero_or_pos n with h0 | h0
      · have : ¬ x < 0 := by rw [hx, sgn_lt]; omega
        subst h0
        rw [if_neg (by omega), if_neg (by simp)]
        simp [sgn]
      · have : x < 0 := by rw [hx, sgn_lt]; exact ⟨rfl, h0⟩
        simp only [this, true_and, decide_true]
    have Hx := Lib.hid hx
    have Hsg := Lib.hid hsg
    have Hfl := Lib.hid hfl
    have Hx0 := Lib.hid hx0'
    clear hx hsg hfl hx0'
    have Hsz0 : szT (sgn true (n / y)) ≤ 34359738368 := by rw [szT_sgn]; omega
    go_wp2_with fail
    rw [← hw4]
    refine (form_calls2 _ vq (n / y) _ (hqN.ext (e3.trans e4))).mono ?_
    rintro e w5 ⟨vz, rfl, hz, e5⟩
    obtain ⟨s', rfl, hn⟩ := hz
    obtain ⟨ad5, cap5, rfl⟩ := hn.slice
    have Hn5 := Lib.hid hn
    clear hn
    have c5 := b5.ext e5
    have hf0 := c5.free 0
    have hf1 := c5.free 1
    have hcc0 := c5.cell 0
    have hcc1 := c5.cell 1
    have hsz5 := e5.size
    have B5 := (c5.set 0 (.bool (decide (sgn true (n / y) < 0)))).set 1 (.slice ad5 (sz TK (sgn true (n / y)).natAbs) cap5)
    obtain ⟨w6, hw6⟩ : ∃ w6, w6 = (w5.setCell ⟨w3.heap.size, 0, none⟩ (.bool (decide (sgn true (n / y) < 0)))).setCell ⟨w3.heap.size, 1, none⟩ (.slice ad5 (sz TK (sgn true (n / y)).natAbs) cap5) := ⟨_, rfl⟩
    have hch : Chg w3.heap.size w5 w6 := by rw [hw6]; exact Chg.trans (Chg.setCell _ w3.heap.size 0 _) (Chg.setCell _ w3.heap.size 1 _)
    have hs6 : w6.heap.size = w5.heap.size := by rw [hw6]; simp [World.setCell]
    rw [← hw6] at B5
    have E6 := (E.trans e5).step hch (by omega)
    have B1' := (B1.ext e5).chg hch (by omega)
    have B2' := (B2.ext e5).chg hch (by omega)
    have B3' := (B3.ext e5).chg hch (by omega)
    have B4' := (B4.ext e5).chg hch (by omega)
    have Hq0 : FrZd (w.heap.size + 4) w6 _ (sgn true (n / y)) := ⟨_, rfl, (Hn5.out.chg hch (by omega)).mono (by omega)⟩
    have hdt : decide (sgn true (n / y) < 0) = decide (sgn true (n / y) < 0) := rfl
    clear E B1 B2 B3 B4
    have E := E6
    have B1 := B1'
    have B2 := B2'
    have B3 := B3'
    have B4 := B4'
    clear E6 B1' B2' B3' B4'
    by_cases hr0 : n % y = 0
    · have hx0 : x / (y : Int) = sgn true (n / y) := by rw [Hx0.out, if_neg (by omega)]
      rw [hr0] at hrz ⊢
      have hz0 : sz TK 0 = 0 := rfl
      go_wp2_with fail
      rw [← hw6]
      have Hq := Hq0
      have Hsz : szT (sgn true (n / y)) ≤ 34359738370 := by omega
      have O10 : (Value.slice ad5 (sz TK (sgn true (n / y)).natAbs) cap5).oneCell' = true := rfl
      have S := s1
      refine wp_region_puts [⟨6, (w.heap.size + 2), 34, PP.val (.agg #[.bool (decide (sgn true (n / y) < 0)), .slice ad5 (sz TK (sgn true (n / y)).natAbs) cap5])⟩, ⟨7, (w.heap.size + 3), 34, PP.frZd (x - sgn true (n / y) * (y : Int))⟩] [PP.val (.agg #[.bool (decide (sgn true (n / y) < 0)), .slice ad5 (sz TK (sgn true (n / y)).natAbs) cap5]), PP.val (.agg #[.bool true, .slice ads (sz TK n) caps]), PP.val (.agg #[.bool (decide (sgn true (n / y) < 0)), .slice ad5 (sz TK (sgn true (n / y)).natAbs) cap5]), PP.val (.agg #[.bool false, t]), PP.frZd (sgn true (n / y) * (y : Int)), PP.frZd (x - sgn true (n / y) * (y : Int)), PP.any, PP.any] [] [6, 5, 4, 3, 2, 1, 0]
        (by kernel_rfl) (by kernel_rfl) (fun f => (by simp only [fillR, fillL, List.setIfInBounds_toArray, List.set_cons_succ, List.set_cons_zero, Nat.reduceAdd]; rfl)) ?_ ?_ ?_ ?_ ?_
      · intro x hx; simp only [List.mem_cons, List.not_mem_nil, or_false] at hx; rcases hx with rfl | rfl
        · exact ⟨by show (w.heap.size + 2) < w6.heap.size; omega, rfl⟩
        · exact ⟨by show (w.heap.size + 3) < w6.heap.size; omega, rfl⟩
      · intro x hx; simp only [List.mem_cons, List.not_mem_nil, or_false] at hx; rcases hx with rfl | rfl <;> rfl
      · intro x hx y hy h; simp only [List.mem_cons, List.not_mem_nil, or_false] at hx hy; rcases hx with rfl | rfl <;> rcases hy with rfl | rfl
        · exact absurd rfl h
        · show (w.heap.size + 2) ≠ (w.heap.size + 3); omega
        · show (w.heap.size + 3) ≠ (w.heap.size + 2); omega
        · exact absurd rfl h
      · refine ⟨?o0, ?o1, ?o2, ?o3, ?o4, ?o5, ?o6, ?o7, trivial⟩
        case o0 =>
          intro f w2 hG hp hl
          have hE : Ext w6 w2 := hG
          have hS := hE.size
          change OpGoal _ _ _ f w2 Ext _
          exact og_load (P := Try.prog) _ _ w3.heap.size _ _ _ rfl rfl rfl (B5.ext hE) Try.underlying34 rfl (by kernel_rfl) rfl
        case o1 =>
          intro f w2 hG hp hl
          have hE : Ext w6 w2 := hG
          have hS := hE.size
          change OpGoal _ _ _ f w2 Ext _
          exact og_load (P := Try.prog) _ _ w.heap.size _ _ _ rfl rfl rfl (B1.ext hE) Try.underlying34 rfl (by kernel_rfl) rfl
        case o2 =>
          intro f w2 hG hp hl
          have hE : Ext w6 w2 := hG
          have hS := hE.size
          change OpGoal _ _ _ f w2 Ext _
          exact og_load (P := Try.prog) _ _ w3.heap.size _ _ _ rfl rfl rfl (B5.ext hE) Try.underlying34 rfl (by kernel_rfl) rfl
        case o3 =>
          intro f w2 hG hp hl
          have hE : Ext w6 w2 := hG
          have hS := hE.size
          change OpGoal _ _ _ f w2 Ext _
          exact og_load (P := Try.prog) _ _ (w.heap.size + 1) _ _ _ rfl rfl rfl (B2.ext hE) Try.underlying34 rfl (by kernel_rfl) rfl
        case o4 =>
          intro f w2 hG hp hl
          have hE : Ext w6 w2 := hG
          have hS := hE.size
          have q37 : f 2 = .agg #[.bool (decide (sgn true (n / y) < 0)), .slice ad5 (sz TK (sgn true (n / y)).natAbs) cap5] := tellV hp 0 2 rfl rfl (fun h => by cases h)
          have q38 : f 3 = .agg #[.bool false, t] := tellV hp 1 3 rfl rfl (fun h => by cases h)
          change OpGoal _ _ _ f w2 Ext _
          refine og_call (P := Try.prog) _ _ _ #[f 2, f 3] Try.func80 (by kernel_rfl) (by kernel_rfl) rfl rfl (by kernel_rfl) ?_
          rw [q37, q38]
          refine (zmul2_calls _ _ (sgn true (n / y)) (y : Int) _ (Hq.cz.ext hE) (hY.ext (E.trans hE)) (by omega) (by rw [hszy]; omega)).mono ?_
          rintro e w' ⟨v', rfl, h1, h2⟩
          exact ⟨v', rfl, h2, h1.mono hS⟩
        case o5 =>
          intro f w2 hG hp hl
          have hE : Ext w6 w2 := hG
          have hS := hE.size
          have q36 : f 1 = .agg #[.bool true, .slice ads (sz TK n) caps] := tellV hp 0 1 rfl rfl (fun h => by cases h)
          have q39 := tellV hp 1 4 rfl rfl (fun _ => hE)
          change OpGoal _ _ _ f w2 Ext _
          refine og_call (P := Try.prog) _ _ _ #[f 1, f 4] Try.func93 (by kernel_rfl) (by kernel_rfl) rfl rfl (by kernel_rfl) ?_
          rw [q36]
          refine (zsub2_calls _ _ x (sgn true (n / y) * (y : Int)) _ (hV.out.ext (E.trans hE)) q39.cz (by omega) (by have := szT_mul (sgn true (n / y)) (y : Int); omega)).mono ?_
          rintro e w' ⟨v', rfl, h1, h2⟩
          exact ⟨v', rfl, h2, h1.mono hS⟩
        case o6 =>
          intro f w2 hG hp hl
          have hE : Ext w6 w2 := hG
          have hS := hE.size
          have q35 : f 0 = .agg #[.bool (decide (sgn true (n / y) < 0)), .slice ad5 (sz TK (sgn true (n / y)).natAbs) cap5] := tellV hp 0 0 rfl rfl (fun h => by cases h)
          intro hg0
          change OpGoal _ _ _ f w2 (Chg _) _
          exact og_store (P := Try.prog) _ _ _ (w.heap.size + 2) _ _ _ (PP.val _ : PP _).p rfl rfl rfl q35 (show Bx 34 w2 _ _ from hg0.trans B3) (by kernel_rfl) rfl (all2 rfl O10) (fun w' h => rfl)
        case o7 =>
          intro f w2 hG hp hl
          have hS : w6.heap.size ≤ w2.heap.size := hG.2.2.2.1
          have q40 := tellV hp 0 5 rfl rfl (fun _ => by contradiction)
          intro hg0
          change OpGoal _ _ _ f w2 (Chg _) _
          obtain ⟨s', hv, hn⟩ := q40
          exact og_store (P := Try.prog) _ _ _ (w.heap.size + 3) _ _ _ (PP.frZd _ : PP _).p rfl rfl rfl hv (show Bx 34 w2 _ _ from hg0.trans B4) (by kernel_rfl) rfl (all2 rfl hn.oneCell) (fun w' h => ⟨s', rfl, hn.chg h (by omega)⟩)
      · intro f w2 hG hp
        obtain ⟨cs0, hbx0, hz0⟩ : ∃ cs, Bx 34 w2 (w.heap.size + 2) cs ∧ (PP.val (.agg #[.bool (decide (sgn true (n / y) < 0)), .slice ad5 (sz TK (sgn true (n / y)).natAbs) cap5]) : PP w6.heap.size).p (.agg cs) w2 := endS hp 6 (by decide)
        obtain ⟨cs1, hbx1, hz1⟩ : ∃ cs, Bx 34 w2 (w.heap.size + 3) cs ∧ (PP.frZd (x - sgn true (n / y) * (y : Int)) : PP w6.heap.size).p (.agg cs) w2 := endS hp 7 (by decide)
        clear hp
        have hz2 := hz1.mono (show w.heap.size ≤ _ by omega)
        obtain ⟨s', hv, hn⟩ := hz1
        cases hv
        cases hz0
        go_wp2
        have hm : x % (y : Int) = x - sgn true (n / y) * (y : Int) := by rw [Int.emod_def, hx0, Int.mul_comm]
        refine ret_two 4 5 34 34 (w.heap.size + 2) (w.heap.size + 3) 34 34 _ _ _ _ (by kernel_rfl) rfl rfl hbx0 hbx1 Try.underlying34 rfl (by kernel_rfl) Try.underlying34 rfl (by kernel_rfl) rfl ?_
        refine ⟨_, _, rfl, ?_, ?_, E.stepS hG (by simp)⟩
        · rw [hx0]; exact (Hq.chgS hG (by simp)).mono (by omega)
        · rw [hm]; exact hz2
    · have hx0 : x / (y : Int) = sgn true (n / y) - 1 := by rw [Hx0.out, if_pos (by omega)]
      have hrz2 : ¬ sz TK (n % y) = 0 := fun e => hr0 (hrz.1 e)
      go_wp2_with fail
      rw [← hw6]
      refine wp_region_puts [⟨3, w3.heap.size, 34, PP.frZd (sgn true (n / y) - 1)⟩] [PP.val (.agg #[.bool (decide (sgn true (n / y) < 0)), .slice ad5 (sz TK (sgn true (n / y)).natAbs) cap5]), PP.frZd 1, PP.frZd (sgn true (n / y) - 1), PP.any] [] [3, 2, 1, 0]
        (by kernel_rfl) (by kernel_rfl) (fun f => (by simp only [fillR, fillL, List.setIfInBounds_toArray, List.set_cons_succ, List.set_cons_zero, Nat.reduceAdd]; rfl)) ?_ ?_ ?_ ?_ ?_
      · intro x hx; simp only [List.mem_singleton] at hx; subst hx; exact ⟨by show w3.heap.size < w6.heap.size; omega, rfl⟩
      · intro x hx; simp only [List.mem_singleton] at hx; subst hx; rfl
      · intro x hx y hy h; simp only [List.mem_singleton] at hx hy; subst hx hy; exact absurd rfl h
      · refine ⟨?o0, ?o1, ?o2, ?o3, trivial⟩
        case o0 =>
          intro f w7 hG hp hl
          have hE : Ext w6 w7 := hG
          have hS := hE.size
          change OpGoal _ _ _ f w7 Ext _
          exact og_load (P := Try.prog) _ _ w3.heap.size _ _ _ rfl rfl rfl (B5.ext hE) Try.underlying34 rfl (by kernel_rfl) rfl
        case o1 =>
          intro f w7 hG hp hl
          have hE : Ext w6 w7 := hG
          have hS := hE.size
          change OpGoal _ _ _ f w7 Ext _
          refine og_call (P := Try.prog) _ _ _ #[.int .i64 1] Try.func53 (by kernel_rfl) (by kernel_rfl) rfl rfl (by kernel_rfl) ?_
          refine (zsmall2_calls 1 _ (by omega) (by omega)).mono ?_
          rintro e w' ⟨v', rfl, h1, h2⟩
          exact ⟨v', rfl, h2, h1.mono hS⟩
        case o2 =>
          intro f w7 hG hp hl
          have hE : Ext w6 w7 := hG
          have hS := hE.size
          have q32 : f 0 = .agg #[.bool (decide (sgn true (n / y) < 0)), .slice ad5 (sz TK (sgn true (n / y)).natAbs) cap5] := tellV hp 0 0 rfl rfl (fun h => by cases h)
          have q33 := tellV hp 1 1 rfl rfl (fun _ => hE)
          change OpGoal _ _ _ f w7 Ext _
          refine og_call (P := Try.prog) _ _ _ #[f 0, f 1] Try.func93 (by kernel_rfl) (by kernel_rfl) rfl rfl (by kernel_rfl) ?_
          rw [q32]
          refine (zsub2_calls _ _ (sgn true (n / y)) 1 _ (Hq0.cz.ext hE) q33.cz (by omega) (by rw [show szT 1 = 1 from rfl]; omega)).mono ?_
          rintro e w' ⟨v', rfl, h1, h2⟩
          exact ⟨v', rfl, h2, h1.mono hS⟩
        case o3 =>
          intro f w7 hG hp hl
          have hE : Ext w6 w7 := hG
          have hS := hE.size
          have q34 := tellV hp 0 2 rfl rfl (fun _ => hE)
          intro hg0
          change OpGoal _ _ _ f w7 (Chg _) _
          obtain ⟨s', hv, hn⟩ := q34
          exact og_store (P := Try.prog) _ _ _ w3.heap.size _ _ _ (PP.frZd _ : PP _).p rfl rfl rfl hv (show Bx 34 w7 _ _ from hg0.trans B5) (by kernel_rfl) rfl (all2 rfl hn.oneCell) (fun w' h => ⟨s', rfl, hn.chg h (by omega)⟩)
      · intro f wz hG hp
        obtain ⟨cs0, hbx0, hz0⟩ : ∃ cs, Bx 34 wz w3.heap.size cs ∧ (PP.frZd (sgn true (n / y) - 1) : PP w6.heap.size).p (.agg cs) wz := endS hp 3 (by decide)
        clear hp
        have hz1 := hz0
        obtain ⟨s10, hv, hn10⟩ := hz0
        cases hv
        have O10 := hn10.oneCell
        have E' := E.stepS hG (by simp only [List.map_cons, List.map_nil, List.mem_singleton, forall_eq]; omega)
        have B1' := B1.chgS hG (by simp only [List.map_cons, List.map_nil, List.mem_singleton]; omega)
        have B2' := B2.chgS hG (by simp only [List.map_cons, List.map_nil, List.mem_singleton]; omega)
        have B3' := B3.chgS hG (by simp only [List.map_cons, List.map_nil, List.mem_singleton]; omega)
        have B4' := B4.chgS hG (by simp only [List.map_cons, List.map_nil, List.mem_singleton]; omega)
        have hsz7 := hG.2.2.2.1
        have Hq : FrZd (w.heap.size + 4) wz _ (sgn true (n / y) - 1) := hz1.mono (by omega)
        have Hsz : szT (sgn true (n / y) - 1) ≤ 34359738370 := by
          have := szT_add (sgn true (n / y)) (-1)
          rw [← Int.sub_eq_add_neg] at this
          rw [show szT (-1) = 1 from rfl] at this
          omega
        clear E B1 B2 B3 B4 B5
        have E := E'
        have B1 := B1'
        have B2 := B2'
        have B3 := B3'
        have B4 := B4'
        clear E' B1' B2' B3' B4'
        have B5 := hbx0
        have S := s1
        go_wp2_with fail
        refine wp_region_puts [⟨6, (w.heap.size + 2), 34, PP.val (.agg #[.bool (decide ((sgn true (n / y) - 1) < 0)), s10])⟩, ⟨7, (w.heap.size + 3), 34, PP.frZd (x - (sgn true (n / y) - 1) * (y : Int))⟩] [PP.val (.agg #[.bool (decide ((sgn true (n / y) - 1) < 0)), s10]), PP.val (.agg #[.bool true, .slice ads (sz TK n) caps]), PP.val (.agg #[.bool (decide ((sgn true (n / y) - 1) < 0)), s10]), PP.val (.agg #[.bool false, t]), PP.frZd ((sgn true (n / y) - 1) * (y : Int)), PP.frZd (x - (sgn true (n / y) - 1) * (y : Int)), PP.any, PP.any] [] [6, 5, 4, 3, 2, 1, 0]
          (by kernel_rfl) (by kernel_rfl) (fun f => (by simp only [fillR, fillL, List.setIfInBounds_toArray, List.set_cons_succ, List.set_cons_zero, Nat.reduceAdd]; rfl)) ?_ ?_ ?_ ?_ ?_
        · intro x hx; simp only [List.mem_cons, List.not_mem_nil, or_false] at hx; rcases hx with rfl | rfl
          · exact ⟨by show (w.heap.size + 2) < wz.heap.size; omega, rfl⟩
          · exact ⟨by show (w.heap.size + 3) < wz.heap.size; omega, rfl⟩
        · intro x hx; simp only [List.mem_cons, List.not_mem_nil, or_false] at hx; rcases hx with rfl | rfl <;> rfl
        · intro x hx y hy h; simp only [List.mem_cons, List.not_mem_nil, or_false] at hx hy; rcases hx with rfl | rfl <;> rcases hy with rfl | rfl
          · exact absurd rfl h
          · show (w.heap.size + 2) ≠ (w.heap.size + 3); omega
          · show (w.heap.size + 3) ≠ (w.heap.size + 2); omega
          · exact absurd rfl h
        · refine ⟨?o0, ?o1, ?o2, ?o3, ?o4, ?o5, ?o6, ?o7, trivial⟩
          case o0 =>
            intro f w2 hG hp hl
            have hE : Ext wz w2 := hG
            have hS := hE.size
            change OpGoal _ _ _ f w2 Ext _
            exact og_load (P := Try.prog) _ _ w3.heap.size _ _ _ rfl rfl rfl (B5.ext hE) Try.underlying34 rfl (by kernel_rfl) rfl
          case o1 =>
            intro f w2 hG hp hl
            have hE : Ext wz w2 := hG
            have hS := hE.size
            change OpGoal _ _ _ f w2 Ext _
            exact og_load (P := Try.prog) _ _ w.heap.size _ _ _ rfl rfl rfl (B1.ext hE) Try.underlying34 rfl (by kernel_rfl) rfl
          case o2 =>
            intro f w2 hG hp hl
            have hE : Ext wz w2 := hG
            have hS := hE.size
            change OpGoal _ _ _ f w2 Ext _
            exact og_load (P := Try.prog) _ _ w3.heap.size _ _ _ rfl rfl rfl (B5.ext hE) Try.underlying34 rfl (by kernel_rfl) rfl
          case o3 =>
            intro f w2 hG hp hl
            have hE : Ext wz w2 := hG
            have hS := hE.size
            change OpGoal _ _ _ f w2 Ext _
            exact og_load (P := Try.prog) _ _ (w.heap.size + 1) _ _ _ rfl rfl rfl (B2.ext hE) Try.underlying34 rfl (by kernel_rfl) rfl
          case o4 =>
            intro f w2 hG hp hl
            have hE : Ext wz w2 := hG
            have hS := hE.size
            have q37 : f 2 = .agg #[.bool (decide ((sgn true (n / y) - 1) < 0)), s10] := tellV hp 0 2 rfl rfl (fun h => by cases h)
            have q38 : f 3 = .agg #[.bool false, t] := tellV hp 1 3 rfl rfl (fun h => by cases h)
            change OpGoal _ _ _ f w2 Ext _
            refine og_call (P := Try.prog) _ _ _ #[f 2, f 3] Try.func80 (by kernel_rfl) (by kernel_rfl) rfl rfl (by kernel_rfl) ?_
            rw [q37, q38]
            refine (zmul2_calls _ _ ((sgn true (n / y) - 1)) (y : Int) _ (Hq.cz.ext hE) (hY.ext (E.trans hE)) (by omega) (by rw [hszy]; omega)).mono ?_
            rintro e w' ⟨v', rfl, h1, h2⟩
            exact ⟨v', rfl, h2, h1.mono hS⟩
          case o5 =>
            intro f w2 hG hp hl
            have hE : Ext wz w2 := hG
            have hS := hE.size
            have q36 : f 1 = .agg #[.bool true, .slice ads (sz TK n) caps] := tellV hp 0 1 rfl rfl (fun h => by cases h)
            have q39 := tellV hp 1 4 rfl rfl (fun _ => hE)
            change OpGoal _ _ _ f w2 Ext _
            refine og_call (P := Try.prog) _ _ _ #[f 1, f 4] Try.func93 (by kernel_rfl) (by kernel_rfl) rfl rfl (by kernel_rfl) ?_
            rw [q36]
            refine (zsub2_calls _ _ x ((sgn true (n / y) - 1) * (y : Int)) _ (hV.out.ext (E.trans hE)) q39.cz (by omega) (by have := szT_mul ((sgn true (n / y) - 1)) (y : Int); omega)).mono ?_
            rintro e w' ⟨v', rfl, h1, h2⟩
            exact ⟨v', rfl, h2, h1.mono hS⟩
          case o6 =>
            intro f w2 hG hp hl
            have hE : Ext wz w2 := hG
            have hS := hE.size
            have q35 : f 0 = .agg #[.bool (decide ((sgn true (n / y) - 1) < 0)), s10] := tellV hp 0 0 rfl rfl (fun h => by cases h)
            intro hg0
            change OpGoal _ _ _ f w2 (Chg _) _
            exact og_store (P := Try.prog) _ _ _ (w.heap.size + 2) _ _ _ (PP.val _ : PP _).p rfl rfl rfl q35 (show Bx 34 w2 _ _ from hg0.trans B3) (by kernel_rfl) rfl (all2 rfl O10) (fun w' h => rfl)
          case o7 =>
            intro f w2 hG hp hl
            have hS : wz.heap.size ≤ w2.heap.size := hG.2.2.2.1
            have q40 := tellV hp 0 5 rfl rfl (fun _ => by contradiction)
            intro hg0
            change OpGoal _ _ _ f w2 (Chg _) _
            obtain ⟨s', hv, hn⟩ := q40
            exact og_store (P := Try.prog) _ _ _ (w.heap.size + 3) _ _ _ (PP.frZd _ : PP _).p rfl rfl rfl hv (show Bx 34 w2 _ _ from hg0.trans B4) (by kernel_rfl) rfl (all2 rfl hn.oneCell) (fun w' h => ⟨s', rfl, hn.chg h (by omega)⟩)
        · intro f w2 hG hp
          obtain ⟨cs0, hbx0, hz0⟩ : ∃ cs, Bx 34 w2 (w.heap.size + 2) cs ∧ (PP.val (.agg #[.bool (decide ((sgn true (n / y) - 1) < 0)), s10]) : PP wz.heap.size).p (.agg cs) w2 := endS hp 6 (by decide)
          obtain ⟨cs1, hbx1, hz1⟩ : ∃ cs, Bx 34 w2 (w.heap.size + 3) cs ∧ (PP.frZd (x - (sgn true (n / y) - 1) * (y : Int)) : PP wz.heap.size).p (.agg cs) w2 := endS hp 7 (by decide)
          clear hp
          have hz2 := hz1.mono (show w.heap.size ≤ _ by omega)
          obtain ⟨s', hv, hn⟩ := hz1
          cases hv
          cases hz0
          go_wp2
          have hm : x % (y : Int) = x - (sgn true (n / y) - 1) * (y : Int) := by rw [Int.emod_def, hx0, Int.mul_comm]
          refine ret_two 4 5 34 34 (w.heap.size + 2) (w.heap.size + 3) 34 34 _ _ _ _ (by kernel_rfl) rfl rfl hbx0 hbx1 Try.underlying34 rfl (by kernel_rfl) Try.underlying34 rfl (by kernel_rfl) rfl ?_
          refine ⟨_, _, rfl, ?_, ?_, E.stepS hG (by simp)⟩
          · rw [hx0]; exact (Hq.chgS hG (by simp)).mono (by omega)
          · rw [hm]; exact hz2
end Go.Proofs.Ytnefipinicfegaa
