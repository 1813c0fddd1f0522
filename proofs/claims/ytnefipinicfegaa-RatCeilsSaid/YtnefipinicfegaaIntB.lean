/-
  zint: of a word, comparison, sums, differences.
-/
import Derived.Test.YtnefipinicfegaaIntA
namespace Go.Proofs.Ytnefipinicfegaa
open Go.RowKit
set_option linter.unusedVariables false
set_option linter.unusedSimpArgs false

set_option maxRecDepth 100000 in
theorem szZ_small {n : Nat} (h : n < W) : sz W n ≤ 1 := dg_len_le W_gt (by simpa using h)

set_option maxRecDepth 100000 in
theorem isN_one {k : IntKind} {B : Nat} (w : World) (c : Nat) (e : TypeId) (hc : c < B) : IsN k B (w.alloc (.cells #[.int k (c : Int)] e)) (.slice (some ⟨w.heap.size, 0, none⟩) 1 1) c :=
  ⟨[c], ⟨_, 1, rfl, Nat.le_refl _, by omega, Rd.new1 w k c e⟩, (LIM_pos k), fun y hy => (by simpa using hy : y = c) ▸ hc, by simp [val]⟩

set_option maxRecDepth 100000 in
theorem zof_calls (z : Int) (w : World) (h0 : -9223372036854775808 ≤ z) (h1 : z ≤ 9223372036854775807) :
    Calls Try.prog 64 #[.int .i64 z] w fun e w' => ∃ v', e = .returned v' ∧ FrZ w.heap.size w' v' z ∧ Ext w w' := by
  go_enter Try.func64, Try.ntmps64
  have h2 := W_eq
  rcases (show z < 0 ∨ 0 ≤ z by omega) with h | h
  · have hn : (-(z + 1) + 1) = (z.natAbs : Int) := by omega
    have hlt : z.natAbs < W := by omega
    have hz : sgn true z.natAbs = z := by simp only [sgn, if_true]; omega
    go_wp2_with fail
    obtain ⟨w1, hw1, e1, b1, s1⟩ := alloc1 w #[.bool false, .slice none 0 0] 24
    rw [← hw1, ← s1]
    refine (make_calls true _ z.natAbs _ (isN_one w1 z.natAbs 79 hlt)).mono ?_
    rw [hz]
    rintro e w2 ⟨v', rfl, hz, hext⟩
    have s2 := alloc_size w1 (.cells #[.int .u64 (z.natAbs : Int)] 79)
    have e2 := ((Ext.refl w1).alloc (.cells #[.int .u64 (z.natAbs : Int)] 79)).trans hext
    obtain ⟨s', rfl, hn⟩ := hz
    obtain ⟨ad, cap, rfl⟩ := hn.slice
    have Hn := Lib.hid hn
    clear hn
    have hb := b1.ext e2
    have hc0 := hb.cell 0
    have hc1 := hb.cell 1
    have hf0 := hb.free 0
    have hf1 := hb.free 1
    go_wp2
    refine ret_box 2 24 w.heap.size 24 _ _ (by kernel_rfl) rfl ((hb.set 0 _).set 1 _) Try.underlying24 rfl (by kernel_rfl) rfl ?_
    exact ⟨_, rfl, ⟨_, (by first | rfl | simp_all), (Hn.out.chg (Chg.trans (Chg.setCell _ w.heap.size 0 _) (Chg.setCell _ w.heap.size 1 _)) (by omega)).mono (by omega)⟩, (e1.trans e2).step (Chg.trans (Chg.setCell _ w.heap.size 0 _) (Chg.setCell _ w.heap.size 1 _)) (by omega)⟩
  · have hn := Lib.hid (show z = (z.natAbs : Int) by omega)
    have hlt : z.natAbs < W := by omega
    have hz : sgn false z.natAbs = z := by simp only [sgn, if_false, Bool.false_eq_true]; omega
    have hlt2 : z < 18446744073709551616 := by omega
    clear h2
    go_wp2_with fail
    rw [show (Value.int .u64 z) = .int .u64 (z.natAbs : Int) by rw [← hn.out]]
    obtain ⟨w1, hw1, e1, b1, s1⟩ := alloc1 w #[.bool false, .slice none 0 0] 24
    rw [← hw1, ← s1]
    refine (make_calls false _ z.natAbs _ (isN_one w1 z.natAbs 79 hlt)).mono ?_
    rw [hz]
    rintro e w2 ⟨v', rfl, hz, hext⟩
    have s2 := alloc_size w1 (.cells #[.int .u64 (z.natAbs : Int)] 79)
    have e2 := ((Ext.refl w1).alloc (.cells #[.int .u64 (z.natAbs : Int)] 79)).trans hext
    obtain ⟨s', rfl, hn⟩ := hz
    obtain ⟨ad, cap, rfl⟩ := hn.slice
    have Hn := Lib.hid hn
    clear hn
    have hb := b1.ext e2
    have hc0 := hb.cell 0
    have hc1 := hb.cell 1
    have hf0 := hb.free 0
    have hf1 := hb.free 1
    go_wp2
    refine ret_box 2 24 w.heap.size 24 _ _ (by kernel_rfl) rfl ((hb.set 0 _).set 1 _) Try.underlying24 rfl (by kernel_rfl) rfl ?_
    exact ⟨_, rfl, ⟨_, (by first | rfl | simp_all), (Hn.out.chg (Chg.trans (Chg.setCell _ w.heap.size 0 _) (Chg.setCell _ w.heap.size 1 _)) (by omega)).mono (by omega)⟩, (e1.trans e2).step (Chg.trans (Chg.setCell _ w.heap.size 0 _) (Chg.setCell _ w.heap.size 1 _)) (by omega)⟩

set_option maxRecDepth 100000 in
theorem sign_cases (x : Int) : (x.sign = -1 ∧ x < 0) ∨ (x.sign = 0 ∧ x = 0) ∨ (x.sign = 1 ∧ 0 < x) := by
  rcases (show x < 0 ∨ x = 0 ∨ 0 < x by omega) with h | h | h
  · exact .inl ⟨Int.sign_eq_neg_one_of_neg h, h⟩
  · exact .inr (.inl ⟨by rw [h]; rfl, h⟩)
  · exact .inr (.inr ⟨Int.sign_eq_one_of_pos h, h⟩)
set_option maxRecDepth 100000 in
theorem cmpN_sign (n m : Nat) : cmpN n m = ((n : Int) - m).sign := by
  have := sign_cases ((n : Int) - m)
  unfold cmpN
  split <;> (try split) <;> omega

set_option maxRecDepth 100000 in
theorem cmp_neg {b c : Bool} {n m : Nat} {x y : Int} (hx : x = sgn b n) (hy : y = sgn c m) (h : x.sign = y.sign) (h2 : y < 0) : cmpN m n = (x - y).sign := by
  have cx := sign_cases x
  have cy := sign_cases y
  have hb := ((sgn_lt b n).1 (by omega)).1
  have hc := ((sgn_lt c m).1 (by omega)).1
  subst hb hc
  rw [cmpN_sign, hx, hy]
  congr 1
  simp only [sgn, if_true]
  omega
set_option maxRecDepth 100000 in
theorem cmp_pos {b c : Bool} {n m : Nat} {x y : Int} (hx : x = sgn b n) (hy : y = sgn c m) (h : x.sign = y.sign) (h2 : 0 ≤ y) : cmpN n m = (x - y).sign := by
  have cx := sign_cases x
  have cy := sign_cases y
  have hb : sgn b n = n := by
    cases b
    · rfl
    · simp only [sgn, if_true] at *; omega
  have hc : sgn c m = m := by
    cases c
    · rfl
    · simp only [sgn, if_true] at *; omega
  rw [cmpN_sign, hx, hy, hb, hc]

set_option maxRecDepth 100000 in
theorem zcmp_calls (v u : Value) (x y : Int) (w : World) (hv : IsZ w v x) (hu : IsZ w u y) :
    Calls Try.prog 74 #[v, u] w fun e w' => e = .returned (.int .i64 (x - y).sign) ∧ Ext w w' := by
  have hV := Lib.hid hv
  have hU := Lib.hid hu
  obtain ⟨b, s, n, rfl, hs, hx⟩ := hv
  obtain ⟨c, t, m, rfl, ht, hy⟩ := hu
  go_enter Try.func74, Try.ntmps74
  go_wp2_with fail
  obtain ⟨w1, hw1, e1, b1, b2, s1⟩ := alloc2 w #[.bool b, s] #[.bool c, t] 24 24
  rw [← hw1]
  clear hw1
  refine wp_region_puts [] [PP.val (.agg #[.bool b, s]), PP.val (.int .i64 x.sign), PP.val (.agg #[.bool c, t]), PP.val (.int .i64 y.sign), PP.val (.int .i64 x.sign), PP.val (.int .i64 y.sign)] [] [0, 1, 2, 3, 4, 5]
    (by kernel_rfl) (by kernel_rfl) (fun f => (by simp only [fillR, fillL, List.setIfInBounds_toArray, List.set_cons_succ, List.set_cons_zero, Nat.reduceAdd]; rfl)) ?_ ?_ ?_ ?_ ?_
  · intro x hx; cases hx
  · intro x hx; cases hx
  · intro x hx; cases hx
  · refine ⟨?o0, ?o1, ?o2, ?o3, ?o4, ?o5, trivial⟩
    case o0 =>
      intro f w2 hG hp hl
      have hE : Ext w1 w2 := hG
      have hS := hE.size
      change OpGoal _ _ _ f w2 Ext _
      exact og_load (P := Try.prog) _ _ w.heap.size _ _ _ rfl rfl rfl (b1.ext hE) Try.underlying24 rfl (by kernel_rfl) rfl
    case o1 =>
      intro f w2 hG hp hl
      have hE : Ext w1 w2 := hG
      have hS := hE.size
      have q7 : f 0 = .agg #[.bool b, s] := tellV hp 0 0 rfl rfl (fun h => by cases h)
      change OpGoal _ _ _ f w2 Ext _
      refine og_call (P := Try.prog) _ _ _ #[f 0] Try.func55 (by kernel_rfl) (by kernel_rfl) rfl rfl (by kernel_rfl) ?_
      rw [q7]
      refine (zsign_calls _ x _ (hV.out.ext (e1.trans hE))).mono ?_
      rintro e w' ⟨rfl, h2⟩
      exact ⟨_, rfl, h2, rfl⟩
    case o2 =>
      intro f w2 hG hp hl
      have hE : Ext w1 w2 := hG
      have hS := hE.size
      change OpGoal _ _ _ f w2 Ext _
      exact og_load (P := Try.prog) _ _ (w.heap.size + 1) _ _ _ rfl rfl rfl (b2.ext hE) Try.underlying24 rfl (by kernel_rfl) rfl
    case o3 =>
      intro f w2 hG hp hl
      have hE : Ext w1 w2 := hG
      have hS := hE.size
      have q9 : f 2 = .agg #[.bool c, t] := tellV hp 0 2 rfl rfl (fun h => by cases h)
      change OpGoal _ _ _ f w2 Ext _
      refine og_call (P := Try.prog) _ _ _ #[f 2] Try.func55 (by kernel_rfl) (by kernel_rfl) rfl rfl (by kernel_rfl) ?_
      rw [q9]
      refine (zsign_calls _ y _ (hU.out.ext (e1.trans hE))).mono ?_
      rintro e w' ⟨rfl, h2⟩
      exact ⟨_, rfl, h2, rfl⟩
    case o4 =>
      intro f w2 hG hp hl
      have hE : Ext w1 w2 := hG
      have hS := hE.size
      have q8 := tellV hp 0 1 rfl rfl (fun _ => hE)
      exact ⟨_, rfl, Ext.refl _, q8⟩
    case o5 =>
      intro f w2 hG hp hl
      have hE : Ext w1 w2 := hG
      have hS := hE.size
      have q10 := tellV hp 0 3 rfl rfl (fun _ => hE)
      exact ⟨_, rfl, Ext.refl _, q10⟩
  · intro f w2 hG hp
    have hE : Ext w1 w2 := ChgS.nil hG
    have q5 : f 4 = .int .i64 x.sign := endV hp 4 (by decide) rfl (fun h => by cases h)
    have q6 : f 5 = .int .i64 y.sign := endV hp 5 (by decide) rfl (fun h => by cases h)
    clear hp
    have hcx := (b1.ext hE).cell 1
    have hcy := (b2.ext hE).cell 1
    have Hx := Lib.hid hx
    have Hy := Lib.hid hy
    have cx := Lib.hid (sign_cases x)
    have cy := Lib.hid (sign_cases y)
    have cz := Lib.hid (sign_cases (x - y))
    clear hx hy
    go_wp2_with fail
    · refine (cmp_calls _ _ _ _ _ (ht.ext (e1.trans hE)) (hs.ext (e1.trans hE))).mono ?_
      rintro e w3 ⟨rfl, hext⟩
      go_wp2
      go_ret
      exact ⟨ret_int (cmp_neg Hx.out Hy.out ‹_› ‹_›), (e1.trans hE).trans hext⟩
    · refine (cmp_calls _ _ _ _ _ (hs.ext (e1.trans hE)) (ht.ext (e1.trans hE))).mono ?_
      rintro e w3 ⟨rfl, hext⟩
      go_wp2
      go_ret
      exact ⟨ret_int (cmp_pos Hx.out Hy.out ‹_› ‹_›), (e1.trans hE).trans hext⟩
    · go_ret
      have cx := cx.out; have cy := cy.out; have cz := cz.out
      rename_i hlt
      have := hlt.2
      exact ⟨ret_int (by omega), e1.trans hE⟩
    · go_ret
      have cx := cx.out; have cy := cy.out; have cz := cz.out
      rename_i h1 h2 h3
      have h4 : y.sign ≤ x.sign := by rcases h2 with h | h; (rw [h3] at h; cases h); exact h
      exact ⟨ret_int (by omega), e1.trans hE⟩

set_option maxRecDepth 100000 in
theorem zadd_calls (v u : Value) (x y : Int) (w : World) (hv : IsZ w v x) (hu : IsZ w u y) (hsx : szZ x ≤ 17592186044096) (hsy : szZ y ≤ 17592186044096) :
    Calls Try.prog 77 #[v, u] w fun e w' => ∃ v', e = .returned v' ∧ FrZ w.heap.size w' v' (x + y) ∧ Ext w w' := by
  obtain ⟨b, s, n, rfl, hs, rfl⟩ := hv
  obtain ⟨c, t, m, rfl, ht, rfl⟩ := hu
  unfold szZ at hsx hsy
  rw [sgn_natAbs] at hsx hsy
  go_enter Try.func77, Try.ntmps77
  by_cases hbc : b = c
  · subst hbc
    go_wp2_with fail
    obtain ⟨w1, hw1, e1, b1, b2, b3, s1⟩ := alloc3 w #[.bool b, s] #[.bool b, t] #[.bool false, .slice none 0 0] 24 24 24
    rw [← hw1]
    clear hw1
    refine wp_region_puts [⟨8, (w.heap.size + 2), 24, PP.frZ (sgn b (n + m))⟩] [PP.val (.pointer (some ⟨w.heap.size, 0, none⟩)), PP.val (.bool b), PP.val (.pointer (some ⟨w.heap.size, 1, none⟩)), PP.val (s), PP.val (.pointer (some ⟨(w.heap.size + 1), 1, none⟩)), PP.val (t), PP.frN 79 .u64 W (n + m), PP.frZ (sgn b (n + m)), PP.any] [] [8, 7, 6, 5, 4, 3, 2, 1, 0]
      (by kernel_rfl) (by kernel_rfl) (fun f => (by simp only [fillR, fillL, List.setIfInBounds_toArray, List.set_cons_succ, List.set_cons_zero, Nat.reduceAdd]; rfl)) ?_ ?_ ?_ ?_ ?_
    · intro x hx; simp only [List.mem_singleton] at hx; subst hx; exact ⟨by show (w.heap.size + 2) < w1.heap.size; omega, rfl⟩
    · intro x hx; simp only [List.mem_singleton] at hx; subst hx; rfl
    · intro x hx y hy h; simp only [List.mem_singleton] at hx hy; subst hx hy; exact absurd rfl h
    · refine ⟨?o0, ?o1, ?o2, ?o3, ?o4, ?o5, ?o6, ?o7, ?o8, trivial⟩
      case o0 =>
        intro f w2 hG hp hl
        have hE : Ext w1 w2 := hG
        have hS := hE.size
        simp only [OpGoal]
        go_simp
        exact ⟨_, rfl, Ext.refl _, rfl⟩
      case o1 =>
        intro f w2 hG hp hl
        have hE : Ext w1 w2 := hG
        have hS := hE.size
        have q14 : f 0 = .pointer (some ⟨w.heap.size, 0, none⟩) := tellV hp 0 0 rfl rfl (fun h => by cases h)
        have hcell := (b1.ext hE).cell 0
        simp only [OpGoal]
        go_simp
        exact ⟨_, rfl, Ext.refl _, rfl⟩
      case o2 =>
        intro f w2 hG hp hl
        have hE : Ext w1 w2 := hG
        have hS := hE.size
        simp only [OpGoal]
        go_simp
        exact ⟨_, rfl, Ext.refl _, rfl⟩
      case o3 =>
        intro f w2 hG hp hl
        have hE : Ext w1 w2 := hG
        have hS := hE.size
        have q16 : f 2 = .pointer (some ⟨w.heap.size, 1, none⟩) := tellV hp 0 2 rfl rfl (fun h => by cases h)
        have hcell := (b1.ext hE).cell 1
        simp only [OpGoal]
        go_simp
        exact ⟨_, rfl, Ext.refl _, rfl⟩
      case o4 =>
        intro f w2 hG hp hl
        have hE : Ext w1 w2 := hG
        have hS := hE.size
        simp only [OpGoal]
        go_simp
        exact ⟨_, rfl, Ext.refl _, rfl⟩
      case o5 =>
        intro f w2 hG hp hl
        have hE : Ext w1 w2 := hG
        have hS := hE.size
        have q18 : f 4 = .pointer (some ⟨(w.heap.size + 1), 1, none⟩) := tellV hp 0 4 rfl rfl (fun h => by cases h)
        have hcell := (b2.ext hE).cell 1
        simp only [OpGoal]
        go_simp
        exact ⟨_, rfl, Ext.refl _, rfl⟩
      case o6 =>
        intro f w2 hG hp hl
        have hE : Ext w1 w2 := hG
        have hS := hE.size
        have q17 : f 3 = s := tellV hp 0 3 rfl rfl (fun h => by cases h)
        have q19 : f 5 = t := tellV hp 1 5 rfl rfl (fun h => by cases h)
        change OpGoal _ _ _ f w2 Ext _
        refine og_call (P := Try.prog) _ _ _ #[f 3, f 5] Try.func99 (by kernel_rfl) (by kernel_rfl) rfl rfl (by kernel_rfl) ?_
        rw [q17, q19]
        refine (add_calls _ _ n m _ (hs.ext (e1.trans hE)) (ht.ext (e1.trans hE))).mono ?_
        rintro e w' ⟨v', rfl, h1, h2⟩
        exact ⟨v', rfl, h2, h1.mono hS⟩
      case o7 =>
        intro f w2 hG hp hl
        have hE : Ext w1 w2 := hG
        have hS := hE.size
        have q15 : f 1 = .bool b := tellV hp 0 1 rfl rfl (fun h => by cases h)
        have q20 := tellV hp 1 6 rfl rfl (fun _ => hE)
        change OpGoal _ _ _ f w2 Ext _
        refine og_call (P := Try.prog) _ _ _ #[f 1, f 6] Try.func57 (by kernel_rfl) (by kernel_rfl) rfl rfl (by kernel_rfl) ?_
        rw [q15]
        refine (make_calls _ _ _ _ (q20.isC.isN W_gt (Nat.le_trans (sz_add n m) (by rw [LIM_eq]; omega)))).mono ?_
        rintro e w' ⟨v', rfl, h1, h2⟩
        exact ⟨v', rfl, h2, h1.mono hS⟩
      case o8 =>
        intro f w2 hG hp hl
        have hE : Ext w1 w2 := hG
        have hS := hE.size
        have q21 := tellV hp 0 7 rfl rfl (fun _ => hE)
        intro hg0
        change OpGoal _ _ _ f w2 (Chg _) _
        obtain ⟨s', hv, hn⟩ := q21
        exact og_store (P := Try.prog) _ _ _ (w.heap.size + 2) _ _ _ (PP.frZ _ : PP _).p rfl rfl rfl hv (show Bx 24 w2 _ _ from hg0.trans b3) (by kernel_rfl) rfl (all2 rfl hn.oneCell) (fun w' h => ⟨s', rfl, hn.chg h (by omega)⟩)
    · intro f w2 hG hp
      obtain ⟨cs0, hbx0, hz0⟩ : ∃ cs, Bx 24 w2 (w.heap.size + 2) cs ∧ (PP.frZ (sgn b (n + m)) : PP w1.heap.size).p (.agg cs) w2 := endS hp 8 (by decide)
      clear hp
      have hz1 := hz0.mono (show w.heap.size ≤ _ by omega)
      obtain ⟨s', hv, hn⟩ := hz0
      cases hv
      go_wp2
      refine ret_box 4 24 (w.heap.size + 2) 24 _ _ (by kernel_rfl) rfl hbx0 Try.underlying24 rfl (by kernel_rfl) rfl ?_
      rw [show sgn b n + sgn b m = sgn b (n + m) by cases b <;> simp [sgn] <;> omega]
      exact ⟨_, rfl, hz1, e1.stepS hG (by simp)⟩
  · have hc : c = !b := by cases b <;> cases c <;> simp_all
    have hdec : (b == !b) = false := by cases b <;> rfl
    subst hc
    rcases (show m ≤ n ∨ n < m by omega) with hle | hlt
    · go_wp2_with fail
      obtain ⟨w1, hw1, e1, b1, b2, b3, s1⟩ := alloc3 w #[.bool b, s] #[.bool !b, t] #[.bool false, .slice none 0 0] 24 24 24
      rw [← hw1]
      clear hw1
      refine (sub_yes _ _ n m _ (hs.ext e1) (ht.ext e1) hle).mono ?_
      rintro e w2 ⟨vd, rfl, hd, hext⟩
      have hcx := (b1.ext hext).cell 0
      go_wp2_with fail
      refine (make_calls b vd (n - m) _ (hd.isC.isN W_gt (Nat.le_trans (sz_mono (show n - m ≤ n by omega)) (by rw [LIM_eq]; omega)))).mono ?_
      rintro e w3 ⟨v', rfl, hz, hext2⟩
      have es := hext.size
      obtain ⟨s', rfl, hn⟩ := hz
      obtain ⟨ad, cap, rfl⟩ := hn.slice
      have Hn := Lib.hid hn
      clear hn
      have hb := b3.ext (hext.trans hext2)
      have hc0 := hb.cell 0
      have hc1 := hb.cell 1
      have hf0 := hb.free 0
      have hf1 := hb.free 1
      go_wp2
      refine ret_box 4 24 (w.heap.size + 2) 24 _ _ (by kernel_rfl) rfl ((hb.set 0 _).set 1 _) Try.underlying24 rfl (by kernel_rfl) rfl ?_
      rw [show sgn b n + sgn (!b) m = sgn b (n - m) by cases b <;> simp [sgn] <;> omega]
      exact ⟨_, rfl, ⟨_, (by first | rfl | simp_all), (Hn.out.chg (Chg.trans (Chg.setCell _ (w.heap.size + 2) 0 _) (Chg.setCell _ (w.heap.size + 2) 1 _)) (by omega)).mono (by omega)⟩, ((e1.trans hext).trans hext2).step (Chg.trans (Chg.setCell _ (w.heap.size + 2) 0 _) (Chg.setCell _ (w.heap.size + 2) 1 _)) (by omega)⟩
    · go_wp2_with fail
      obtain ⟨w1, hw1, e1, b1, b2, b3, s1⟩ := alloc3 w #[.bool b, s] #[.bool !b, t] #[.bool false, .slice none 0 0] 24 24 24
      rw [← hw1]
      clear hw1
      refine (sub_no _ _ n m _ (hs.ext e1) (ht.ext e1) hlt).mono ?_
      rintro e w2 ⟨rfl, hext⟩
      have hcx := (b1.ext hext).cell 1
      have hcy := (b2.ext hext).cell 1
      go_wp2_with fail
      refine (sub_yes _ _ m n _ (ht.ext (e1.trans hext)) (hs.ext (e1.trans hext)) (by omega)).mono ?_
      rintro e w3 ⟨vd, rfl, hd, hext2⟩
      have hcy2 := (b2.ext (hext.trans hext2)).cell 0
      go_wp2_with fail
      refine (make_calls (!b) vd (m - n) _ (hd.isC.isN W_gt (Nat.le_trans (sz_mono (show m - n ≤ m by omega)) (by rw [LIM_eq]; omega)))).mono ?_
      rintro e w4 ⟨v', rfl, hz, hext3⟩
      have es := hext.size
      have es2 := hext2.size
      obtain ⟨s', rfl, hn⟩ := hz
      obtain ⟨ad, cap, rfl⟩ := hn.slice
      have Hn := Lib.hid hn
      clear hn
      have hb := b3.ext ((hext.trans hext2).trans hext3)
      have hc0 := hb.cell 0
      have hc1 := hb.cell 1
      have hf0 := hb.free 0
      have hf1 := hb.free 1
      go_wp2
      refine ret_box 4 24 (w.heap.size + 2) 24 _ _ (by kernel_rfl) rfl ((hb.set 0 _).set 1 _) Try.underlying24 rfl (by kernel_rfl) rfl ?_
      rw [show sgn b n + sgn (!b) m = sgn (!b) (m - n) by cases b <;> simp [sgn] <;> omega]
      exact ⟨_, rfl, ⟨_, (by first | rfl | simp_all), (Hn.out.chg (Chg.trans (Chg.setCell _ (w.heap.size + 2) 0 _) (Chg.setCell _ (w.heap.size + 2) 1 _)) (by omega)).mono (by omega)⟩, (((e1.trans hext).trans hext2).trans hext3).step (Chg.trans (Chg.setCell _ (w.heap.size + 2) 0 _) (Chg.setCell _ (w.heap.size + 2) 1 _)) (by omega)⟩
end Go.Proofs.Ytnefipinicfegaa
