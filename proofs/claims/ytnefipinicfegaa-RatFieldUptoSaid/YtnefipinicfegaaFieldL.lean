/-
  The law RatField returns true, whatever its fractions are (of at most 1048576 words).
-/
import Derived.Test.YtnefipinicfegaaLawT
namespace Go.Proofs.Ytnefipinicfegaa
open Go.RowKit
set_option linter.unusedVariables false
set_option linter.unusedSimpArgs false

set_option maxRecDepth 100000 in
set_option maxHeartbeats 4000000 in
theorem ratField_calls (v u t : Value) (b1 b2 b3 : Bool) (xs ys xs2 ys2 xs3 ys3 : List Nat) (w : World) (hv : RawQ w v b1 xs ys) (hu : RawQ w u b2 xs2 ys2) (ht : RawQ w t b3 xs3 ys3) (dx : Dig W xs) (dy : Dig W ys) (dx2 : Dig W xs2) (dy2 : Dig W ys2) (dx3 : Dig W xs3) (dy3 : Dig W ys3)
    (h1 : xs.length ≤ 1048576) (h2 : ys.length ≤ 1048576) (h3 : xs2.length ≤ 1048576) (h4 : ys2.length ≤ 1048576) (h5 : xs3.length ≤ 1048576) (h6 : ys3.length ≤ 1048576) :
    Calls Try.prog 10 #[v, u, t] w fun e w' => e = .returned (.bool true) ∧ Ext w w' := by
  have Ha := Lib.hid (hv.isK dx dy h1 h2)
  have Hb := Lib.hid (hu.isK dx2 dy2 h3 h4)
  have Hc := Lib.hid (ht.isK dx3 dy3 h5 h6)
  obtain ⟨ad, n1, cap, ad2, n2, cap2, -, -, rfl⟩ := hv.opn2
  obtain ⟨bd, n3, dap, bd2, n4, dap2, -, -, rfl⟩ := hu.opn2
  obtain ⟨cd, n5, eap, cd2, n6, eap2, -, -, rfl⟩ := ht.opn2
  obtain ⟨x, hx⟩ : ∃ x, x = rawR b1 xs ys := ⟨_, rfl⟩
  obtain ⟨y, hy⟩ : ∃ y, y = rawR b2 xs2 ys2 := ⟨_, rfl⟩
  obtain ⟨z, hz⟩ : ∃ z, z = rawR b3 xs3 ys3 := ⟨_, rfl⟩
  rw [← hx] at Ha
  rw [← hy] at Hb
  rw [← hz] at Hc
  clear hv hu ht hx hy hz h1 h2 h3 h4 h5 h6
  have sx := Ha.out.sz
  have sy := Hb.out.sz
  have sz_ := Hc.out.sz
  have lim : (8388608 : Nat) ≤ LIM := by rw [LIM_eq]; omega
  have hbc := szQ_add sy sz_
  have hab := szQ_mul sx sy
  have hac := szQ_mul sx sz_
  have hl := szQ_mul sx hbc
  have hr := szQ_add hab hac
  have pac := szQ_add sx sz_
  have pbc := szQ_add sy sz_
  have pab := szQ_add sx sy
  have Hd := Lib.hid (show ∀ B wz vz, FrQ B wz vz (x * y + x * z) → FrQ B wz vz (x * (y + z)) from fun _ _ _ h => by rw [Rat.mul_add]; exact h)
  have Hs := Lib.hid (show ∀ B wz vz, FrQ B wz vz (x + y - y) → FrQ B wz vz x from fun _ _ _ h => by rw [add_sub_self] at h; exact h)
  obtain ⟨p, hp0⟩ : ∃ p, p = cmpR x y := ⟨_, rfl⟩
  have Hp := Lib.hid hp0.symm
  have Hpc := Lib.hid ((cmpR_add x y z).trans hp0.symm)
  have hfZ := szZ_floor x
  have hfQ := szQ_int x.floor
  have H1 := Lib.hid (cmpR_le.2 (Rat.floor_le x))
  have H2 := Lib.hid (show cmpR (x - (x.floor : Rat)) ((1 : Int) : Rat) < 0 from cmpR_lt.2 (frac_lt x))
  clear hp0
  go_enter Try.func10, Try.ntmps10
  obtain ⟨w1, hw1, e1, b1', b2', b3', s1⟩ := alloc3 w #[.bool b1, .slice ad n1 cap, .slice ad2 n2 cap2] #[.bool b2, .slice bd n3 dap, .slice bd2 n4 dap2] #[.bool b3, .slice cd n5 eap, .slice cd2 n6 eap2] 28 28 28
  go_wp2_with fail
  rw [← hw1]
  refine (speaks_calls _).mono ?_
  rintro e w2 ⟨rfl, e2⟩
  have B1 := b1'.ext e2
  have B2 := b2'.ext e2
  have B3 := b3'.ext e2
  have E := e1.trans e2
  have Rx := Ha.out.ext E
  have Ry := Hb.out.ext E
  have Rz := Hc.out.ext E
  go_wp2_with fail
  refine wp_region_als [⟨12, 28, 3, #[.bool false, .slice none 0 0, .slice none 0 0]⟩, ⟨13, 28, 3, #[.bool false, .slice none 0 0, .slice none 0 0]⟩] [⟨14, ⟨12, 28, 3, #[.bool false, .slice none 0 0, .slice none 0 0]⟩, PA.frQ (x * (y + z))⟩, ⟨15, ⟨13, 28, 3, #[.bool false, .slice none 0 0, .slice none 0 0]⟩, PA.frQ (x * (y + z))⟩] [PA.val (.agg #[.bool b1, .slice ad n1 cap, .slice ad2 n2 cap2]), PA.val (.agg #[.bool b2, .slice bd n3 dap, .slice bd2 n4 dap2]), PA.val (.agg #[.bool b3, .slice cd n5 eap, .slice cd2 n6 eap2]), PA.frQ (y + z), PA.frQ (x * (y + z)), PA.val (.agg #[.bool b1, .slice ad n1 cap, .slice ad2 n2 cap2]), PA.val (.agg #[.bool b2, .slice bd n3 dap, .slice bd2 n4 dap2]), PA.frQ (x * y), PA.val (.agg #[.bool b1, .slice ad n1 cap, .slice ad2 n2 cap2]), PA.val (.agg #[.bool b3, .slice cd n5 eap, .slice cd2 n6 eap2]), PA.frQ (x * z), PA.frQ (x * (y + z)), PA.any, PA.any, PA.any, PA.any]
    (by kernel_rfl) (by kernel_rfl) (fun f => (by simp only [fillR, fillL, List.setIfInBounds_toArray, List.set_cons_succ, List.set_cons_zero, Nat.reduceAdd]; rfl)) ?_ ?_ ?_ ?_ ?_
  · intro x hx; simp only [List.mem_cons, List.not_mem_nil, or_false] at hx; rcases hx with rfl | rfl
    · exact ⟨rfl, rfl, by decide, by decide, rfl, noInt3 _ _ _ _ _ _ _⟩
    · exact ⟨rfl, rfl, by decide, by decide, rfl, noInt3 _ _ _ _ _ _ _⟩
  · intro x hx; simp only [List.mem_cons, List.not_mem_nil, or_false] at hx; rcases hx with rfl | rfl <;> exact ⟨rfl, rfl, by simp⟩
  · intro x hx y hy h; simp only [List.mem_cons, List.not_mem_nil, or_false] at hx hy; rcases hx with rfl | rfl <;> rcases hy with rfl | rfl
    · exact absurd rfl h
    · show 12 ≠ 13; decide
    · show 13 ≠ 12; decide
    · exact absurd rfl h
  · refine ⟨?o0, ?o1, ?o2, ?o3, ?o4, ?o5, ?o6, ?o7, ?o8, ?o9, ?o10, ?o11, ?o12, ?o13, ?o14, ?o15, trivial⟩
    case o0 =>
      intro f w3 hE hp
      have hS := hE.size
      change OpGoal _ _ _ f w3 Ext _
      exact og_load (P := Try.prog) _ _ w.heap.size _ _ _ rfl rfl rfl (B1.ext hE) Try.underlying28 rfl (by kernel_rfl) rfl
    case o1 =>
      intro f w3 hE hp
      have hS := hE.size
      change OpGoal _ _ _ f w3 Ext _
      exact og_load (P := Try.prog) _ _ (w.heap.size + 1) _ _ _ rfl rfl rfl (B2.ext hE) Try.underlying28 rfl (by kernel_rfl) rfl
    case o2 =>
      intro f w3 hE hp
      have hS := hE.size
      change OpGoal _ _ _ f w3 Ext _
      exact og_load (P := Try.prog) _ _ (w.heap.size + 2) _ _ _ rfl rfl rfl (B3.ext hE) Try.underlying28 rfl (by kernel_rfl) rfl
    case o3 =>
      intro f w3 hE hp
      have hS := hE.size
      have q14 : f 1 = .agg #[.bool b2, .slice bd n3 dap, .slice bd2 n4 dap2] := tellA hp 0 1 rfl rfl rfl
      have q15 : f 2 = .agg #[.bool b3, .slice cd n5 eap, .slice cd2 n6 eap2] := tellA hp 1 2 rfl rfl rfl
      change OpGoal _ _ _ f w3 Ext _
      refine og_call (P := Try.prog) _ _ _ #[f 1, f 2] Try.func43 (by kernel_rfl) (by kernel_rfl) rfl rfl (by kernel_rfl) ?_
      rw [q14, q15]
      refine (radd_calls _ _ y z 1048576 1048576 _ (Ry.ext hE) (Rz.ext hE) (by omega)).mono ?_
      rintro e w' ⟨v', rfl, h1, _, h2⟩
      exact ⟨v', rfl, h2, h1.mono hS⟩
    case o4 =>
      intro f w3 hE hp
      have hS := hE.size
      have q13 : f 0 = .agg #[.bool b1, .slice ad n1 cap, .slice ad2 n2 cap2] := tellA hp 0 0 rfl rfl rfl
      have q16 := tellA hp 1 3 rfl rfl rfl
      change OpGoal _ _ _ f w3 Ext _
      refine og_call (P := Try.prog) _ _ _ #[f 0, f 3] Try.func42 (by kernel_rfl) (by kernel_rfl) rfl rfl (by kernel_rfl) ?_
      rw [q13]
      refine (rmul_calls _ _ x (y + z) 1048576 2097153 _ (Rx.ext hE) (q16.isR (by omega) (by omega)) (by omega)).mono ?_
      rintro e w' ⟨v', rfl, h1, _, h2⟩
      exact ⟨v', rfl, h2, h1.mono hS⟩
    case o5 =>
      intro f w3 hE hp
      have hS := hE.size
      change OpGoal _ _ _ f w3 Ext _
      exact og_load (P := Try.prog) _ _ w.heap.size _ _ _ rfl rfl rfl (B1.ext hE) Try.underlying28 rfl (by kernel_rfl) rfl
    case o6 =>
      intro f w3 hE hp
      have hS := hE.size
      change OpGoal _ _ _ f w3 Ext _
      exact og_load (P := Try.prog) _ _ (w.heap.size + 1) _ _ _ rfl rfl rfl (B2.ext hE) Try.underlying28 rfl (by kernel_rfl) rfl
    case o7 =>
      intro f w3 hE hp
      have hS := hE.size
      have q18 : f 5 = .agg #[.bool b1, .slice ad n1 cap, .slice ad2 n2 cap2] := tellA hp 0 5 rfl rfl rfl
      have q19 : f 6 = .agg #[.bool b2, .slice bd n3 dap, .slice bd2 n4 dap2] := tellA hp 1 6 rfl rfl rfl
      change OpGoal _ _ _ f w3 Ext _
      refine og_call (P := Try.prog) _ _ _ #[f 5, f 6] Try.func42 (by kernel_rfl) (by kernel_rfl) rfl rfl (by kernel_rfl) ?_
      rw [q18, q19]
      refine (rmul_calls _ _ x y 1048576 1048576 _ (Rx.ext hE) (Ry.ext hE) (by omega)).mono ?_
      rintro e w' ⟨v', rfl, h1, _, h2⟩
      exact ⟨v', rfl, h2, h1.mono hS⟩
    case o8 =>
      intro f w3 hE hp
      have hS := hE.size
      change OpGoal _ _ _ f w3 Ext _
      exact og_load (P := Try.prog) _ _ w.heap.size _ _ _ rfl rfl rfl (B1.ext hE) Try.underlying28 rfl (by kernel_rfl) rfl
    case o9 =>
      intro f w3 hE hp
      have hS := hE.size
      change OpGoal _ _ _ f w3 Ext _
      exact og_load (P := Try.prog) _ _ (w.heap.size + 2) _ _ _ rfl rfl rfl (B3.ext hE) Try.underlying28 rfl (by kernel_rfl) rfl
    case o10 =>
      intro f w3 hE hp
      have hS := hE.size
      have q21 : f 8 = .agg #[.bool b1, .slice ad n1 cap, .slice ad2 n2 cap2] := tellA hp 0 8 rfl rfl rfl
      have q22 : f 9 = .agg #[.bool b3, .slice cd n5 eap, .slice cd2 n6 eap2] := tellA hp 1 9 rfl rfl rfl
      change OpGoal _ _ _ f w3 Ext _
      refine og_call (P := Try.prog) _ _ _ #[f 8, f 9] Try.func42 (by kernel_rfl) (by kernel_rfl) rfl rfl (by kernel_rfl) ?_
      rw [q21, q22]
      refine (rmul_calls _ _ x z 1048576 1048576 _ (Rx.ext hE) (Rz.ext hE) (by omega)).mono ?_
      rintro e w' ⟨v', rfl, h1, _, h2⟩
      exact ⟨v', rfl, h2, h1.mono hS⟩
    case o11 =>
      intro f w3 hE hp
      have hS := hE.size
      have q20 := tellA hp 0 7 rfl rfl rfl
      have q23 := tellA hp 1 10 rfl rfl rfl
      change OpGoal _ _ _ f w3 Ext _
      refine og_call (P := Try.prog) _ _ _ #[f 7, f 10] Try.func43 (by kernel_rfl) (by kernel_rfl) rfl rfl (by kernel_rfl) ?_
      refine (radd_calls _ _ (x * y) (x * z) 2097152 2097152 _ (q20.isR (by omega) (by omega)) (q23.isR (by omega) (by omega)) (by omega)).mono ?_
      rintro e w' ⟨v', rfl, h1, _, h2⟩
      exact ⟨v', rfl, h2, Hd.out _ _ _ (h1.mono hS)⟩
    case o12 =>
      intro f w3 hE hp
      have hS := hE.size
      change OpGoal _ _ _ f w3 (fun a b => b = a.alloc _) _
      exact og_alloc (P := Try.prog) _ _ (.agg #[.bool false, .slice none 0 0, .slice none 0 0]) rfl rfl (by kernel_rfl) rfl
    case o13 =>
      intro f w3 hE hp
      have hS := hE.size
      change OpGoal _ _ _ f w3 (fun a b => b = a.alloc _) _
      exact og_alloc (P := Try.prog) _ _ (.agg #[.bool false, .slice none 0 0, .slice none 0 0]) rfl rfl (by kernel_rfl) rfl
    case o14 =>
      intro f w3 hE hp
      have hS := hE.size
      have q17 := tellA hp 1 4 rfl rfl rfl
      intro g old hfa hSg hbx hsz hno
      change OpGoal _ _ _ f w3 (Chg g) _
      obtain ⟨cells, hv, hcs, hc1, hcn⟩ := FrQ.parts q17
      exact og_storeA (P := Try.prog) (PA.frQ (x * (y + z))) 3 _ _ _ g _ old cells rfl rfl hfa hv hbx (by rw [hcs]; kernel_rfl) hsz hcs hc1 hSg (show 28 ≠ 79 by decide) (show 28 ≠ 3 by decide) hno hcn (hv ▸ q17)
    case o15 =>
      intro f w3 hE hp
      have hS := hE.size
      have q24 := tellA hp 1 11 rfl rfl rfl
      intro g old hfa hSg hbx hsz hno
      change OpGoal _ _ _ f w3 (Chg g) _
      obtain ⟨cells, hv, hcs, hc1, hcn⟩ := FrQ.parts q24
      exact og_storeA (P := Try.prog) (PA.frQ (x * (y + z))) 3 _ _ _ g _ old cells rfl rfl hfa hv hbx (by rw [hcs]; kernel_rfl) hsz hcs hc1 hSg (show 28 ≠ 79 by decide) (show 28 ≠ 3 by decide) hno hcn (hv ▸ q24)
  · intro f w3 hE hp hal
    obtain ⟨ga7, ca7, fa7, la7, ba7, na7, pa7⟩ := hal ⟨12, 28, 3, #[.bool false, .slice none 0 0, .slice none 0 0]⟩ (by simp) (by decide)
    dsimp only at fa7 la7 ba7 na7
    have za7 := pa7 ⟨14, ⟨12, 28, 3, #[.bool false, .slice none 0 0, .slice none 0 0]⟩, PA.frQ (x * (y + z))⟩ (by simp) (by show 14 < 16; decide) rfl rfl
    clear pa7
    obtain ⟨ga8, ca8, fa8, la8, ba8, na8, pa8⟩ := hal ⟨13, 28, 3, #[.bool false, .slice none 0 0, .slice none 0 0]⟩ (by simp) (by decide)
    dsimp only at fa8 la8 ba8 na8
    have za8 := pa8 ⟨15, ⟨13, 28, 3, #[.bool false, .slice none 0 0, .slice none 0 0]⟩, PA.frQ (x * (y + z))⟩ (by simp) (by show 15 < 16; decide) rfl rfl
    clear pa8
    clear hp hal
    obtain ⟨c7, ad7, l7, cap7, bd7, m7, dap7, hv7, q7⟩ := FrQ.opn za7
    cases hv7
    obtain ⟨c8, ad8, l8, cap8, bd8, m8, dap8, hv8, q8⟩ := FrQ.opn za8
    cases hv8
    have E3 := E.trans hE
    have C1 := B1.ext hE
    have C2 := B2.ext hE
    have C3 := B3.ext hE
    have Sx := Rx.ext hE
    have Sy := Ry.ext hE
    have Sz := Rz.ext hE
    clear B1 B2 B3 Rx Ry Rz
    go_wp2_with fail
    refine wp_region_puts [] [PP.val (.agg #[.bool c7, .slice ad7 l7 cap7, .slice bd7 m7 dap7]), PP.val (.agg #[.bool c8, .slice ad8 l8 cap8, .slice bd8 m8 dap8]), PP.val (.bool true), PP.val (.bool false), PP.val (.bool false), PP.val (.agg #[.bool b1, .slice ad n1 cap, .slice ad2 n2 cap2]), PP.val (.agg #[.bool b3, .slice cd n5 eap, .slice cd2 n6 eap2]), PP.frQ (x + z), PP.val (.agg #[.bool b2, .slice bd n3 dap, .slice bd2 n4 dap2]), PP.val (.agg #[.bool b3, .slice cd n5 eap, .slice cd2 n6 eap2]), PP.frQ (y + z), PP.val (.int .i64 p), PP.val (.agg #[.bool b1, .slice ad n1 cap, .slice ad2 n2 cap2]), PP.val (.agg #[.bool b2, .slice bd n3 dap, .slice bd2 n4 dap2]), PP.val (.int .i64 p), PP.val (.bool false), PP.val (.bool false), PP.val (.bool false), PP.val (.agg #[.bool b1, .slice ad n1 cap, .slice ad2 n2 cap2]), PP.val (.agg #[.bool b2, .slice bd n3 dap, .slice bd2 n4 dap2]), PP.frQ (x + y), PP.val (.agg #[.bool b2, .slice bd n3 dap, .slice bd2 n4 dap2]), PP.frQ x, PP.val (.agg #[.bool b1, .slice ad n1 cap, .slice ad2 n2 cap2]), PP.frQ x, PP.val (.bool true), PP.val (.bool false), PP.val (.bool false)] [] [0, 1, 2, 3, 4, 5, 6, 7, 8, 9, 10, 11, 12, 13, 14, 15, 16, 17, 18, 19, 20, 21, 22, 23, 24, 25, 26, 27]
      (by kernel_rfl) (by kernel_rfl) (fun f => (by simp only [fillR, fillL, List.setIfInBounds_toArray, List.set_cons_succ, List.set_cons_zero, Nat.reduceAdd]; rfl)) ?_ ?_ ?_ ?_ ?_
    · intro x hx; cases hx
    · intro x hx; cases hx
    · intro x hx; cases hx
    · refine ⟨?o0, ?o1, ?o2, ?o3, ?o4, ?o5, ?o6, ?o7, ?o8, ?o9, ?o10, ?o11, ?o12, ?o13, ?o14, ?o15, ?o16, ?o17, ?o18, ?o19, ?o20, ?o21, ?o22, ?o23, ?o24, ?o25, ?o26, ?o27, trivial⟩
      case o0 =>
        intro f w4 hG hp hl
        have hE : Ext w3 w4 := hG
        have hS := hE.size
        change OpGoal _ _ _ f w4 Ext _
        exact og_load (P := Try.prog) _ _ ga7 _ _ _ rfl rfl rfl (ba7.ext hE) Try.underlying28 rfl (by kernel_rfl) rfl
      case o1 =>
        intro f w4 hG hp hl
        have hE : Ext w3 w4 := hG
        have hS := hE.size
        change OpGoal _ _ _ f w4 Ext _
        exact og_load (P := Try.prog) _ _ ga8 _ _ _ rfl rfl rfl (ba8.ext hE) Try.underlying28 rfl (by kernel_rfl) rfl
      case o2 =>
        intro f w4 hG hp hl
        have hE : Ext w3 w4 := hG
        have hS := hE.size
        have q25 : f 0 = .agg #[.bool c7, .slice ad7 l7 cap7, .slice bd7 m7 dap7] := tellV hp 0 0 rfl rfl (fun h => by cases h)
        have q26 : f 1 = .agg #[.bool c8, .slice ad8 l8 cap8, .slice bd8 m8 dap8] := tellV hp 1 1 rfl rfl (fun h => by cases h)
        change OpGoal _ _ _ f w4 Ext _
        refine og_call (P := Try.prog) _ _ _ #[f 0, f 1] Try.func16 (by kernel_rfl) (by kernel_rfl) rfl rfl (by kernel_rfl) ?_
        rw [q25, q26]
        refine (same_true _ _ _ _ _ _ (q7.ext hE) (q8.ext hE)).mono ?_
        rintro e w' ⟨rfl, h2⟩
        exact ⟨_, rfl, h2, rfl⟩
      case o3 =>
        intro f w4 hG hp hl
        have hE : Ext w3 w4 := hG
        have hS := hE.size
        have q27 : f 2 = .bool true := tellV hp 0 2 rfl rfl (fun h => by cases h)
        simp only [OpGoal]
        go_simp
        exact ⟨_, rfl, Ext.refl _, rfl⟩
      case o4 =>
        intro f w4 hG hp hl
        have hE : Ext w3 w4 := hG
        have hS := hE.size
        have q28 : f 3 = .bool false := tellV hp 0 3 rfl rfl (fun h => by cases h)
        simp only [OpGoal]
        go_simp
        exact ⟨_, rfl, Ext.refl _, rfl⟩
      case o5 =>
        intro f w4 hG hp hl
        have hE : Ext w3 w4 := hG
        have hS := hE.size
        have qg : f 4 = .bool false := tellV hp 0 4 rfl rfl (fun h => by cases h)
        change OpGoal _ _ _ f w4 Ext _
        refine og_guard (j := 4) (want := false) rfl qg ?_
        change OpGoal _ _ _ f w4 Ext _
        exact og_load (P := Try.prog) _ _ w.heap.size _ _ _ rfl rfl rfl (C1.ext hE) Try.underlying28 rfl (by kernel_rfl) rfl
      case o6 =>
        intro f w4 hG hp hl
        have hE : Ext w3 w4 := hG
        have hS := hE.size
        have qg : f 4 = .bool false := tellV hp 0 4 rfl rfl (fun h => by cases h)
        change OpGoal _ _ _ f w4 Ext _
        refine og_guard (j := 4) (want := false) rfl qg ?_
        change OpGoal _ _ _ f w4 Ext _
        exact og_load (P := Try.prog) _ _ (w.heap.size + 2) _ _ _ rfl rfl rfl (C3.ext hE) Try.underlying28 rfl (by kernel_rfl) rfl
      case o7 =>
        intro f w4 hG hp hl
        have hE : Ext w3 w4 := hG
        have hS := hE.size
        have q30 : f 5 = .agg #[.bool b1, .slice ad n1 cap, .slice ad2 n2 cap2] := tellV hp 0 5 rfl rfl (fun h => by cases h)
        have q31 : f 6 = .agg #[.bool b3, .slice cd n5 eap, .slice cd2 n6 eap2] := tellV hp 1 6 rfl rfl (fun h => by cases h)
        have qg : f 4 = .bool false := tellV hp 2 4 rfl rfl (fun h => by cases h)
        change OpGoal _ _ _ f w4 Ext _
        refine og_guard (j := 4) (want := false) rfl qg ?_
        change OpGoal _ _ _ f w4 Ext _
        refine og_call (P := Try.prog) _ _ _ #[f 5, f 6] Try.func43 (by kernel_rfl) (by kernel_rfl) rfl rfl (by kernel_rfl) ?_
        rw [q30, q31]
        refine (radd_calls _ _ x z 1048576 1048576 _ (Sx.ext hE) (Sz.ext hE) (by omega)).mono ?_
        rintro e w' ⟨v', rfl, h1, _, h2⟩
        exact ⟨v', rfl, h2, h1.mono hS⟩
      case o8 =>
        intro f w4 hG hp hl
        have hE : Ext w3 w4 := hG
        have hS := hE.size
        have qg : f 4 = .bool false := tellV hp 0 4 rfl rfl (fun h => by cases h)
        change OpGoal _ _ _ f w4 Ext _
        refine og_guard (j := 4) (want := false) rfl qg ?_
        change OpGoal _ _ _ f w4 Ext _
        exact og_load (P := Try.prog) _ _ (w.heap.size + 1) _ _ _ rfl rfl rfl (C2.ext hE) Try.underlying28 rfl (by kernel_rfl) rfl
      case o9 =>
        intro f w4 hG hp hl
        have hE : Ext w3 w4 := hG
        have hS := hE.size
        have qg : f 4 = .bool false := tellV hp 0 4 rfl rfl (fun h => by cases h)
        change OpGoal _ _ _ f w4 Ext _
        refine og_guard (j := 4) (want := false) rfl qg ?_
        change OpGoal _ _ _ f w4 Ext _
        exact og_load (P := Try.prog) _ _ (w.heap.size + 2) _ _ _ rfl rfl rfl (C3.ext hE) Try.underlying28 rfl (by kernel_rfl) rfl
      case o10 =>
        intro f w4 hG hp hl
        have hE : Ext w3 w4 := hG
        have hS := hE.size
        have q33 : f 8 = .agg #[.bool b2, .slice bd n3 dap, .slice bd2 n4 dap2] := tellV hp 0 8 rfl rfl (fun h => by cases h)
        have q34 : f 9 = .agg #[.bool b3, .slice cd n5 eap, .slice cd2 n6 eap2] := tellV hp 1 9 rfl rfl (fun h => by cases h)
        have qg : f 4 = .bool false := tellV hp 3 4 rfl rfl (fun h => by cases h)
        change OpGoal _ _ _ f w4 Ext _
        refine og_guard (j := 4) (want := false) rfl qg ?_
        change OpGoal _ _ _ f w4 Ext _
        refine og_call (P := Try.prog) _ _ _ #[f 8, f 9] Try.func43 (by kernel_rfl) (by kernel_rfl) rfl rfl (by kernel_rfl) ?_
        rw [q33, q34]
        refine (radd_calls _ _ y z 1048576 1048576 _ (Sy.ext hE) (Sz.ext hE) (by omega)).mono ?_
        rintro e w' ⟨v', rfl, h1, _, h2⟩
        exact ⟨v', rfl, h2, h1.mono hS⟩
      case o11 =>
        intro f w4 hG hp hl
        have hE : Ext w3 w4 := hG
        have hS := hE.size
        have q32 := tellV hp 0 7 rfl rfl (fun _ => hE)
        have q35 := tellV hp 1 10 rfl rfl (fun _ => hE)
        have qg : f 4 = .bool false := tellV hp 3 4 rfl rfl (fun h => by cases h)
        change OpGoal _ _ _ f w4 Ext _
        refine og_guard (j := 4) (want := false) rfl qg ?_
        change OpGoal _ _ _ f w4 Ext _
        refine og_call (P := Try.prog) _ _ _ #[f 7, f 10] Try.func41 (by kernel_rfl) (by kernel_rfl) rfl rfl (by kernel_rfl) ?_
        refine (rcmp_calls _ _ (x + z) (y + z) 2097153 2097153 _ (q32.isR (by omega) (by omega)) (q35.isR (by omega) (by omega)) (by omega)).mono ?_
        rintro e w' ⟨rfl, h2⟩
        exact ⟨_, rfl, h2, congrArg (Value.int .i64) Hpc.out⟩
      case o12 =>
        intro f w4 hG hp hl
        have hE : Ext w3 w4 := hG
        have hS := hE.size
        have qg : f 4 = .bool false := tellV hp 0 4 rfl rfl (fun h => by cases h)
        change OpGoal _ _ _ f w4 Ext _
        refine og_guard (j := 4) (want := false) rfl qg ?_
        change OpGoal _ _ _ f w4 Ext _
        exact og_load (P := Try.prog) _ _ w.heap.size _ _ _ rfl rfl rfl (C1.ext hE) Try.underlying28 rfl (by kernel_rfl) rfl
      case o13 =>
        intro f w4 hG hp hl
        have hE : Ext w3 w4 := hG
        have hS := hE.size
        have qg : f 4 = .bool false := tellV hp 0 4 rfl rfl (fun h => by cases h)
        change OpGoal _ _ _ f w4 Ext _
        refine og_guard (j := 4) (want := false) rfl qg ?_
        change OpGoal _ _ _ f w4 Ext _
        exact og_load (P := Try.prog) _ _ (w.heap.size + 1) _ _ _ rfl rfl rfl (C2.ext hE) Try.underlying28 rfl (by kernel_rfl) rfl
      case o14 =>
        intro f w4 hG hp hl
        have hE : Ext w3 w4 := hG
        have hS := hE.size
        have q37 : f 12 = .agg #[.bool b1, .slice ad n1 cap, .slice ad2 n2 cap2] := tellV hp 0 12 rfl rfl (fun h => by cases h)
        have q38 : f 13 = .agg #[.bool b2, .slice bd n3 dap, .slice bd2 n4 dap2] := tellV hp 1 13 rfl rfl (fun h => by cases h)
        have qg : f 4 = .bool false := tellV hp 3 4 rfl rfl (fun h => by cases h)
        change OpGoal _ _ _ f w4 Ext _
        refine og_guard (j := 4) (want := false) rfl qg ?_
        change OpGoal _ _ _ f w4 Ext _
        refine og_call (P := Try.prog) _ _ _ #[f 12, f 13] Try.func41 (by kernel_rfl) (by kernel_rfl) rfl rfl (by kernel_rfl) ?_
        rw [q37, q38]
        refine (rcmp_calls _ _ x y 1048576 1048576 _ (Sx.ext hE) (Sy.ext hE) (by omega)).mono ?_
        rintro e w' ⟨rfl, h2⟩
        exact ⟨_, rfl, h2, congrArg (Value.int .i64) Hp.out⟩
      case o15 =>
        intro f w4 hG hp hl
        have hE : Ext w3 w4 := hG
        have hS := hE.size
        have q36 : f 11 = .int .i64 p := tellV hp 0 11 rfl rfl (fun h => by cases h)
        have q39 : f 14 = .int .i64 p := tellV hp 1 14 rfl rfl (fun h => by cases h)
        have qg : f 4 = .bool false := tellV hp 2 4 rfl rfl (fun h => by cases h)
        change OpGoal _ _ _ f w4 Ext _
        refine og_guard (j := 4) (want := false) rfl qg ?_
        simp only [OpGoal]
        go_simp
        exact ⟨_, rfl, Ext.refl _, rfl⟩
      case o16 =>
        intro f w4 hG hp hl
        have hE : Ext w3 w4 := hG
        have hS := hE.size
        have q29 : f 4 = .bool false := tellV hp 0 4 rfl rfl (fun h => by cases h)
        have q40 : f 15 = .bool false := tellV hp 1 15 rfl rfl (fun h => by cases h)
        simp only [OpGoal]
        go_simp
        exact ⟨_, rfl, Ext.refl _, rfl⟩
      case o17 =>
        intro f w4 hG hp hl
        have hE : Ext w3 w4 := hG
        have hS := hE.size
        have q41 : f 16 = .bool false := tellV hp 0 16 rfl rfl (fun h => by cases h)
        simp only [OpGoal]
        go_simp
        exact ⟨_, rfl, Ext.refl _, rfl⟩
      case o18 =>
        intro f w4 hG hp hl
        have hE : Ext w3 w4 := hG
        have hS := hE.size
        have qg : f 17 = .bool false := tellV hp 0 17 rfl rfl (fun h => by cases h)
        change OpGoal _ _ _ f w4 Ext _
        refine og_guard (j := 17) (want := false) rfl qg ?_
        change OpGoal _ _ _ f w4 Ext _
        exact og_load (P := Try.prog) _ _ w.heap.size _ _ _ rfl rfl rfl (C1.ext hE) Try.underlying28 rfl (by kernel_rfl) rfl
      case o19 =>
        intro f w4 hG hp hl
        have hE : Ext w3 w4 := hG
        have hS := hE.size
        have qg : f 17 = .bool false := tellV hp 0 17 rfl rfl (fun h => by cases h)
        change OpGoal _ _ _ f w4 Ext _
        refine og_guard (j := 17) (want := false) rfl qg ?_
        change OpGoal _ _ _ f w4 Ext _
        exact og_load (P := Try.prog) _ _ (w.heap.size + 1) _ _ _ rfl rfl rfl (C2.ext hE) Try.underlying28 rfl (by kernel_rfl) rfl
      case o20 =>
        intro f w4 hG hp hl
        have hE : Ext w3 w4 := hG
        have hS := hE.size
        have q43 : f 18 = .agg #[.bool b1, .slice ad n1 cap, .slice ad2 n2 cap2] := tellV hp 0 18 rfl rfl (fun h => by cases h)
        have q44 : f 19 = .agg #[.bool b2, .slice bd n3 dap, .slice bd2 n4 dap2] := tellV hp 1 19 rfl rfl (fun h => by cases h)
        have qg : f 17 = .bool false := tellV hp 2 17 rfl rfl (fun h => by cases h)
        change OpGoal _ _ _ f w4 Ext _
        refine og_guard (j := 17) (want := false) rfl qg ?_
        change OpGoal _ _ _ f w4 Ext _
        refine og_call (P := Try.prog) _ _ _ #[f 18, f 19] Try.func43 (by kernel_rfl) (by kernel_rfl) rfl rfl (by kernel_rfl) ?_
        rw [q43, q44]
        refine (radd_calls _ _ x y 1048576 1048576 _ (Sx.ext hE) (Sy.ext hE) (by omega)).mono ?_
        rintro e w' ⟨v', rfl, h1, _, h2⟩
        exact ⟨v', rfl, h2, h1.mono hS⟩
      case o21 =>
        intro f w4 hG hp hl
        have hE : Ext w3 w4 := hG
        have hS := hE.size
        have qg : f 17 = .bool false := tellV hp 0 17 rfl rfl (fun h => by cases h)
        change OpGoal _ _ _ f w4 Ext _
        refine og_guard (j := 17) (want := false) rfl qg ?_
        change OpGoal _ _ _ f w4 Ext _
        exact og_load (P := Try.prog) _ _ (w.heap.size + 1) _ _ _ rfl rfl rfl (C2.ext hE) Try.underlying28 rfl (by kernel_rfl) rfl
      case o22 =>
        intro f w4 hG hp hl
        have hE : Ext w3 w4 := hG
        have hS := hE.size
        have q45 := tellV hp 0 20 rfl rfl (fun _ => hE)
        have q46 : f 21 = .agg #[.bool b2, .slice bd n3 dap, .slice bd2 n4 dap2] := tellV hp 1 21 rfl rfl (fun h => by cases h)
        have qg : f 17 = .bool false := tellV hp 3 17 rfl rfl (fun h => by cases h)
        change OpGoal _ _ _ f w4 Ext _
        refine og_guard (j := 17) (want := false) rfl qg ?_
        change OpGoal _ _ _ f w4 Ext _
        refine og_call (P := Try.prog) _ _ _ #[f 20, f 21] Try.func46 (by kernel_rfl) (by kernel_rfl) rfl rfl (by kernel_rfl) ?_
        rw [q46]
        refine (rsub_calls _ _ (x + y) y 2097153 1048576 _ (q45.isR (by omega) (by omega)) (Sy.ext hE) (by omega)).mono ?_
        rintro e w' ⟨v', rfl, h1, _, h2⟩
        exact ⟨v', rfl, h2, Hs.out _ _ _ (h1.mono hS)⟩
      case o23 =>
        intro f w4 hG hp hl
        have hE : Ext w3 w4 := hG
        have hS := hE.size
        have qg : f 17 = .bool false := tellV hp 0 17 rfl rfl (fun h => by cases h)
        change OpGoal _ _ _ f w4 Ext _
        refine og_guard (j := 17) (want := false) rfl qg ?_
        change OpGoal _ _ _ f w4 Ext _
        exact og_load (P := Try.prog) _ _ w.heap.size _ _ _ rfl rfl rfl (C1.ext hE) Try.underlying28 rfl (by kernel_rfl) rfl
      case o24 =>
        intro f w4 hG hp hl
        have hE : Ext w3 w4 := hG
        have hS := hE.size
        have q48 : f 23 = .agg #[.bool b1, .slice ad n1 cap, .slice ad2 n2 cap2] := tellV hp 0 23 rfl rfl (fun h => by cases h)
        have qg : f 17 = .bool false := tellV hp 2 17 rfl rfl (fun h => by cases h)
        change OpGoal _ _ _ f w4 Ext _
        refine og_guard (j := 17) (want := false) rfl qg ?_
        change OpGoal _ _ _ f w4 Ext _
        refine og_call (P := Try.prog) _ _ _ #[f 23] Try.func44 (by kernel_rfl) (by kernel_rfl) rfl rfl (by kernel_rfl) ?_
        rw [q48]
        refine (form_calls _ x 1048576 _ (Sx.ext hE) (by omega)).mono ?_
        rintro e w' ⟨v', rfl, h1, h2⟩
        exact ⟨v', rfl, h2, h1.mono hS⟩
      case o25 =>
        intro f w4 hG hp hl
        have hE : Ext w3 w4 := hG
        have hS := hE.size
        have q47 := tellV hp 0 22 rfl rfl (fun _ => hE)
        have q49 := tellV hp 1 24 rfl rfl (fun _ => hE)
        have qg : f 17 = .bool false := tellV hp 3 17 rfl rfl (fun h => by cases h)
        change OpGoal _ _ _ f w4 Ext _
        refine og_guard (j := 17) (want := false) rfl qg ?_
        change OpGoal _ _ _ f w4 Ext _
        refine og_call (P := Try.prog) _ _ _ #[f 22, f 24] Try.func16 (by kernel_rfl) (by kernel_rfl) rfl rfl (by kernel_rfl) ?_
        refine (same_true _ _ _ _ _ _ q47 q49).mono ?_
        rintro e w' ⟨rfl, h2⟩
        exact ⟨_, rfl, h2, rfl⟩
      case o26 =>
        intro f w4 hG hp hl
        have hE : Ext w3 w4 := hG
        have hS := hE.size
        have q50 : f 25 = .bool true := tellV hp 0 25 rfl rfl (fun h => by cases h)
        have qg : f 17 = .bool false := tellV hp 1 17 rfl rfl (fun h => by cases h)
        change OpGoal _ _ _ f w4 Ext _
        refine og_guard (j := 17) (want := false) rfl qg ?_
        simp only [OpGoal]
        go_simp
        exact ⟨_, rfl, Ext.refl _, rfl⟩
      case o27 =>
        intro f w4 hG hp hl
        have hE : Ext w3 w4 := hG
        have hS := hE.size
        have q42 : f 17 = .bool false := tellV hp 0 17 rfl rfl (fun h => by cases h)
        have q51 : f 26 = .bool false := tellV hp 1 26 rfl rfl (fun h => by cases h)
        simp only [OpGoal]
        go_simp
        exact ⟨_, rfl, Ext.refl _, rfl⟩
    · intro f w4 hG hp
      have hE : Ext w3 w4 := ChgS.nil hG
      have q52 : f 27 = .bool false := endV hp 27 (by decide) rfl (fun h => by cases h)
      try simp only [q52]
      clear hp
      have E4 := E3.trans hE
      have D1 := C1.ext hE
      have D2 := C2.ext hE
      have Tx := Sx.ext hE
      have Ty := Sy.ext hE
      clear C1 C2 C3 Sx Sy Sz
      have hx0 := D1.cell 0
      have hx1 := D1.cell 1
      have hx2 := D1.cell 2
      have hy0 := D2.cell 0
      have hy1 := D2.cell 1
      have hy2 := D2.cell 2
      by_cases hy0' : y = 0
      · have Hy0 := Lib.hid hy0'
        have Hys := Lib.hid (show y.num.sign = 0 by rw [hy0']; rfl)
        clear hy0'
        go_wp2_with fail
        refine (rdiv_zero _ _ x 1048576 1048576 _ Tx (Hy0.out ▸ Ty) (by omega)).mono ?_
        rintro e w5 ⟨rfl, e5⟩
        unfold zeroQ
        obtain ⟨w6, hw6, e6, b6, s6⟩ := alloc1 w5 #[.bool false, .slice none 0 0, .slice none 0 0] 28
        have F := e5.trans e6
        have G2 := D2.ext F
        clear hx0 hx1 hx2 hy0 hy1 hy2
        have hy0 := G2.cell 0
        have hy1 := G2.cell 1
        have hy2 := G2.cell 2
        rw [hw6] at hy0 hy1 hy2
        go_wp2_with fail
        rw [← hw6]
        clear hy0 hy1 hy2
        refine (rsign_calls _ y 1048576 _ (Ty.ext F)).mono ?_
        rw [Hys.out]
        rintro e w7 ⟨rfl, e7⟩
        go_wp2
        go_ret
        exact ⟨rfl, E4.trans (F.trans e7)⟩
      · have Hy0 := Lib.hid hy0'
        have Hq := Lib.hid (show ∀ B wz vz, FrQ B wz vz (x / y * y) → FrQ B wz vz x from fun _ _ _ h => by rw [div_mul_self _ _ hy0'] at h; exact h)
        clear hy0'
        go_wp2_with fail
        refine (rdiv_calls _ _ x y 1048576 1048576 _ Tx Ty Hy0.out (by omega)).mono ?_
        rintro e w5 ⟨v5, rfl, q5, hqs, e5⟩
        obtain ⟨c5, ad5, l5, cap5, bd5, m5, dap5, rfl, q5⟩ := q5.opn
        obtain ⟨w6, hw6, e6, b6, s6⟩ := alloc1 w5 #[.bool c5, .slice ad5 l5 cap5, .slice bd5 m5 dap5] 28
        have F := e5.trans e6
        have G1 := D1.ext F
        have G2 := D2.ext F
        have Vx := Tx.ext F
        have Vy := Ty.ext F
        have Vq := (q5.ext e6).isR hqs (by omega)
        have E6 := E4.trans F
        clear hx0 hx1 hx2 hy0 hy1 hy2
        go_wp2_with fail
        rw [← hw6]
        refine wp_region_puts [] [PP.val (.agg #[.bool c5, .slice ad5 l5 cap5, .slice bd5 m5 dap5]), PP.val (.agg #[.bool b2, .slice bd n3 dap, .slice bd2 n4 dap2]), PP.frQ x, PP.val (.agg #[.bool b1, .slice ad n1 cap, .slice ad2 n2 cap2]), PP.frQ x, PP.val (.bool true), PP.val (.bool true), PP.val (.agg #[.bool b1, .slice ad n1 cap, .slice ad2 n2 cap2]), PP.frZ x.floor, PP.frQ (x.floor : Rat), PP.val (.agg #[.bool b1, .slice ad n1 cap, .slice ad2 n2 cap2]), PP.le0, PP.val (.bool true), PP.val (.bool true), PP.val (.bool true), PP.val (.agg #[.bool b1, .slice ad n1 cap, .slice ad2 n2 cap2]), PP.frQS (x - (x.floor : Rat)) (2 * 1048576 + 2), PP.frQ ((1 : Int) : Rat), PP.lt0, PP.val (.bool true), PP.val (.bool true), PP.val (.bool true)] [] [0, 1, 2, 3, 4, 5, 6, 7, 8, 9, 10, 11, 12, 13, 14, 15, 16, 17, 18, 19, 20, 21]
          (by kernel_rfl) (by kernel_rfl) (fun f => (by simp only [fillR, fillL, List.setIfInBounds_toArray, List.set_cons_succ, List.set_cons_zero, Nat.reduceAdd]; rfl)) ?_ ?_ ?_ ?_ ?_
        · intro x hx; cases hx
        · intro x hx; cases hx
        · intro x hx; cases hx
        · refine ⟨?o0, ?o1, ?o2, ?o3, ?o4, ?o5, ?o6, ?o7, ?o8, ?o9, ?o10, ?o11, ?o12, ?o13, ?o14, ?o15, ?o16, ?o17, ?o18, ?o19, ?o20, ?o21, trivial⟩
          case o0 =>
            intro f w7 hG hp hl
            have hE : Ext w6 w7 := hG
            have hS := hE.size
            change OpGoal _ _ _ f w7 Ext _
            exact og_load (P := Try.prog) _ _ w5.heap.size _ _ _ rfl rfl rfl (b6.ext hE) Try.underlying28 rfl (by kernel_rfl) rfl
          case o1 =>
            intro f w7 hG hp hl
            have hE : Ext w6 w7 := hG
            have hS := hE.size
            change OpGoal _ _ _ f w7 Ext _
            exact og_load (P := Try.prog) _ _ (w.heap.size + 1) _ _ _ rfl rfl rfl (G2.ext hE) Try.underlying28 rfl (by kernel_rfl) rfl
          case o2 =>
            intro f w7 hG hp hl
            have hE : Ext w6 w7 := hG
            have hS := hE.size
            have q68 : f 0 = .agg #[.bool c5, .slice ad5 l5 cap5, .slice bd5 m5 dap5] := tellV hp 0 0 rfl rfl (fun h => by cases h)
            have q69 : f 1 = .agg #[.bool b2, .slice bd n3 dap, .slice bd2 n4 dap2] := tellV hp 1 1 rfl rfl (fun h => by cases h)
            change OpGoal _ _ _ f w7 Ext _
            refine og_call (P := Try.prog) _ _ _ #[f 0, f 1] Try.func42 (by kernel_rfl) (by kernel_rfl) rfl rfl (by kernel_rfl) ?_
            rw [q68, q69]
            refine (rmul_calls _ _ (x / y) y 2097152 1048576 _ (Vq.ext hE) (Vy.ext hE) (by omega)).mono ?_
            rintro e w' ⟨v', rfl, h1, _, h2⟩
            exact ⟨v', rfl, h2, Hq.out _ _ _ (h1.mono hS)⟩
          case o3 =>
            intro f w7 hG hp hl
            have hE : Ext w6 w7 := hG
            have hS := hE.size
            change OpGoal _ _ _ f w7 Ext _
            exact og_load (P := Try.prog) _ _ w.heap.size _ _ _ rfl rfl rfl (G1.ext hE) Try.underlying28 rfl (by kernel_rfl) rfl
          case o4 =>
            intro f w7 hG hp hl
            have hE : Ext w6 w7 := hG
            have hS := hE.size
            have q71 : f 3 = .agg #[.bool b1, .slice ad n1 cap, .slice ad2 n2 cap2] := tellV hp 0 3 rfl rfl (fun h => by cases h)
            change OpGoal _ _ _ f w7 Ext _
            refine og_call (P := Try.prog) _ _ _ #[f 3] Try.func44 (by kernel_rfl) (by kernel_rfl) rfl rfl (by kernel_rfl) ?_
            rw [q71]
            refine (form_calls _ x 1048576 _ (Vx.ext hE) (by omega)).mono ?_
            rintro e w' ⟨v', rfl, h1, h2⟩
            exact ⟨v', rfl, h2, h1.mono hS⟩
          case o5 =>
            intro f w7 hG hp hl
            have hE : Ext w6 w7 := hG
            have hS := hE.size
            have q70 := tellV hp 0 2 rfl rfl (fun _ => hE)
            have q72 := tellV hp 1 4 rfl rfl (fun _ => hE)
            change OpGoal _ _ _ f w7 Ext _
            refine og_call (P := Try.prog) _ _ _ #[f 2, f 4] Try.func16 (by kernel_rfl) (by kernel_rfl) rfl rfl (by kernel_rfl) ?_
            refine (same_true _ _ _ _ _ _ q70 q72).mono ?_
            rintro e w' ⟨rfl, h2⟩
            exact ⟨_, rfl, h2, rfl⟩
          case o6 =>
            intro f w7 hG hp hl
            have hE : Ext w6 w7 := hG
            have hS := hE.size
            have q73 : f 5 = .bool true := tellV hp 0 5 rfl rfl (fun h => by cases h)
            exact ⟨_, rfl, Ext.refl _, q73⟩
          case o7 =>
            intro f w7 hG hp hl
            have hE : Ext w6 w7 := hG
            have hS := hE.size
            have qg : f 6 = .bool true := tellV hp 0 6 rfl rfl (fun h => by cases h)
            change OpGoal _ _ _ f w7 Ext _
            refine og_guard (j := 6) (want := true) rfl qg ?_
            change OpGoal _ _ _ f w7 Ext _
            exact og_load (P := Try.prog) _ _ w.heap.size _ _ _ rfl rfl rfl (G1.ext hE) Try.underlying28 rfl (by kernel_rfl) rfl
          case o8 =>
            intro f w7 hG hp hl
            have hE : Ext w6 w7 := hG
            have hS := hE.size
            have q75 : f 7 = .agg #[.bool b1, .slice ad n1 cap, .slice ad2 n2 cap2] := tellV hp 0 7 rfl rfl (fun h => by cases h)
            have qg : f 6 = .bool true := tellV hp 1 6 rfl rfl (fun h => by cases h)
            change OpGoal _ _ _ f w7 Ext _
            refine og_guard (j := 6) (want := true) rfl qg ?_
            change OpGoal _ _ _ f w7 Ext _
            refine og_call (P := Try.prog) _ _ _ #[f 7] Try.func29 (by kernel_rfl) (by kernel_rfl) rfl rfl (by kernel_rfl) ?_
            rw [q75]
            refine (rfloor_calls _ x 1048576 _ (Vx.ext hE) (by omega)).mono ?_
            rintro e w' ⟨v', rfl, h1, _, h2⟩
            exact ⟨v', rfl, h2, h1.mono hS⟩
          case o9 =>
            intro f w7 hG hp hl
            have hE : Ext w6 w7 := hG
            have hS := hE.size
            have q76 := tellV hp 0 8 rfl rfl (fun _ => hE)
            have qg : f 6 = .bool true := tellV hp 2 6 rfl rfl (fun h => by cases h)
            change OpGoal _ _ _ f w7 Ext _
            refine og_guard (j := 6) (want := true) rfl qg ?_
            change OpGoal _ _ _ f w7 Ext _
            refine og_call (P := Try.prog) _ _ _ #[f 8] Try.func15 (by kernel_rfl) (by kernel_rfl) rfl rfl (by kernel_rfl) ?_
            refine (rofint_calls _ x.floor _ (q76.isZ (by omega)) (by omega)).mono ?_
            rintro e w' ⟨v', rfl, h1, h2⟩
            exact ⟨v', rfl, h2, h1.mono hS⟩
          case o10 =>
            intro f w7 hG hp hl
            have hE : Ext w6 w7 := hG
            have hS := hE.size
            have qg : f 6 = .bool true := tellV hp 0 6 rfl rfl (fun h => by cases h)
            change OpGoal _ _ _ f w7 Ext _
            refine og_guard (j := 6) (want := true) rfl qg ?_
            change OpGoal _ _ _ f w7 Ext _
            exact og_load (P := Try.prog) _ _ w.heap.size _ _ _ rfl rfl rfl (G1.ext hE) Try.underlying28 rfl (by kernel_rfl) rfl
          case o11 =>
            intro f w7 hG hp hl
            have hE : Ext w6 w7 := hG
            have hS := hE.size
            have q77 := tellV hp 0 9 rfl rfl (fun _ => hE)
            have q78 : f 10 = .agg #[.bool b1, .slice ad n1 cap, .slice ad2 n2 cap2] := tellV hp 1 10 rfl rfl (fun h => by cases h)
            have qg : f 6 = .bool true := tellV hp 3 6 rfl rfl (fun h => by cases h)
            change OpGoal _ _ _ f w7 Ext _
            refine og_guard (j := 6) (want := true) rfl qg ?_
            change OpGoal _ _ _ f w7 Ext _
            refine og_call (P := Try.prog) _ _ _ #[f 9, f 10] Try.func41 (by kernel_rfl) (by kernel_rfl) rfl rfl (by kernel_rfl) ?_
            rw [q78]
            refine (rcmp_calls _ _ (x.floor : Rat) x 1048577 1048576 _ (q77.isR (by omega) (by omega)) (Vx.ext hE) (by omega)).mono ?_
            rintro e w' ⟨rfl, h2⟩
            exact ⟨_, rfl, h2, _, rfl, H1.out⟩
          case o12 =>
            intro f w7 hG hp hl
            have hE : Ext w6 w7 := hG
            have hS := hE.size
            have q79 := tellV hp 0 11 rfl rfl (fun _ => hE)
            have qg : f 6 = .bool true := tellV hp 1 6 rfl rfl (fun h => by cases h)
            change OpGoal _ _ _ f w7 Ext _
            refine og_guard (j := 6) (want := true) rfl qg ?_
            obtain ⟨z0, hz0, hz1⟩ := q79
            simp only [OpGoal]
            go_simp
            exact ⟨_, rfl, Ext.refl _, rfl⟩
          case o13 =>
            intro f w7 hG hp hl
            have hE : Ext w6 w7 := hG
            have hS := hE.size
            have q74 : f 6 = .bool true := tellV hp 0 6 rfl rfl (fun h => by cases h)
            have q80 : f 12 = .bool true := tellV hp 1 12 rfl rfl (fun h => by cases h)
            simp only [OpGoal]
            go_simp
            exact ⟨_, rfl, Ext.refl _, rfl⟩
          case o14 =>
            intro f w7 hG hp hl
            have hE : Ext w6 w7 := hG
            have hS := hE.size
            have q81 : f 13 = .bool true := tellV hp 0 13 rfl rfl (fun h => by cases h)
            simp only [OpGoal]
            go_simp
            exact ⟨_, rfl, Ext.refl _, rfl⟩
          case o15 =>
            intro f w7 hG hp hl
            have hE : Ext w6 w7 := hG
            have hS := hE.size
            have qg : f 14 = .bool true := tellV hp 0 14 rfl rfl (fun h => by cases h)
            change OpGoal _ _ _ f w7 Ext _
            refine og_guard (j := 14) (want := true) rfl qg ?_
            change OpGoal _ _ _ f w7 Ext _
            exact og_load (P := Try.prog) _ _ w.heap.size _ _ _ rfl rfl rfl (G1.ext hE) Try.underlying28 rfl (by kernel_rfl) rfl
          case o16 =>
            intro f w7 hG hp hl
            have hE : Ext w6 w7 := hG
            have hS := hE.size
            have q83 : f 15 = .agg #[.bool b1, .slice ad n1 cap, .slice ad2 n2 cap2] := tellV hp 0 15 rfl rfl (fun h => by cases h)
            have qg : f 14 = .bool true := tellV hp 1 14 rfl rfl (fun h => by cases h)
            change OpGoal _ _ _ f w7 Ext _
            refine og_guard (j := 14) (want := true) rfl qg ?_
            change OpGoal _ _ _ f w7 Ext _
            refine og_call (P := Try.prog) _ _ _ #[f 15] Try.func31 (by kernel_rfl) (by kernel_rfl) rfl rfl (by kernel_rfl) ?_
            rw [q83]
            refine (rfrac_calls _ x 1048576 _ (Vx.ext hE) (by omega)).mono ?_
            rintro e w' ⟨v', rfl, h1, h3, h2⟩
            exact ⟨v', rfl, h2, h1.mono hS, h3⟩
          case o17 =>
            intro f w7 hG hp hl
            have hE : Ext w6 w7 := hG
            have hS := hE.size
            have qg : f 14 = .bool true := tellV hp 1 14 rfl rfl (fun h => by cases h)
            change OpGoal _ _ _ f w7 Ext _
            refine og_guard (j := 14) (want := true) rfl qg ?_
            change OpGoal _ _ _ f w7 Ext _
            refine og_call (P := Try.prog) _ _ _ #[.int .i64 1] Try.func24 (by kernel_rfl) (by kernel_rfl) rfl rfl (by kernel_rfl) ?_
            refine (rwhole_calls 1 _ (by omega) (by omega)).mono ?_
            rintro e w' ⟨v', rfl, h1, h2⟩
            exact ⟨v', rfl, h2, h1.mono hS⟩
          case o18 =>
            intro f w7 hG hp hl
            have hE : Ext w6 w7 := hG
            have hS := hE.size
            have q84 := tellV hp 0 16 rfl rfl (fun _ => hE)
            have q85 := tellV hp 1 17 rfl rfl (fun _ => hE)
            have qg : f 14 = .bool true := tellV hp 3 14 rfl rfl (fun h => by cases h)
            change OpGoal _ _ _ f w7 Ext _
            refine og_guard (j := 14) (want := true) rfl qg ?_
            change OpGoal _ _ _ f w7 Ext _
            refine og_call (P := Try.prog) _ _ _ #[f 16, f 17] Try.func41 (by kernel_rfl) (by kernel_rfl) rfl rfl (by kernel_rfl) ?_
            refine (rcmp_calls _ _ (x - (x.floor : Rat)) ((1 : Int) : Rat) (2 * 1048576 + 2) 1 _ (q84.1.isR q84.2 (by omega)) (q85.isR (Nat.le_trans (szQ_int 1) (by decide)) (by omega)) (by omega)).mono ?_
            rintro e w' ⟨rfl, h2⟩
            exact ⟨_, rfl, h2, _, rfl, H2.out⟩
          case o19 =>
            intro f w7 hG hp hl
            have hE : Ext w6 w7 := hG
            have hS := hE.size
            have q86 := tellV hp 0 18 rfl rfl (fun _ => hE)
            have qg : f 14 = .bool true := tellV hp 1 14 rfl rfl (fun h => by cases h)
            change OpGoal _ _ _ f w7 Ext _
            refine og_guard (j := 14) (want := true) rfl qg ?_
            obtain ⟨z0, hz0, hz1⟩ := q86
            simp only [OpGoal]
            go_simp
            exact ⟨_, rfl, Ext.refl _, rfl⟩
          case o20 =>
            intro f w7 hG hp hl
            have hE : Ext w6 w7 := hG
            have hS := hE.size
            have q82 : f 14 = .bool true := tellV hp 0 14 rfl rfl (fun h => by cases h)
            have q87 : f 19 = .bool true := tellV hp 1 19 rfl rfl (fun h => by cases h)
            simp only [OpGoal]
            go_simp
            exact ⟨_, rfl, Ext.refl _, rfl⟩
          case o21 =>
            intro f w7 hG hp hl
            have hE : Ext w6 w7 := hG
            have hS := hE.size
            have q88 : f 20 = .bool true := tellV hp 0 20 rfl rfl (fun h => by cases h)
            simp only [OpGoal]
            go_simp
            exact ⟨_, rfl, Ext.refl _, rfl⟩
        · intro f w7 hG hp
          have hE : Ext w6 w7 := ChgS.nil hG
          have q6 : f 21 = .bool true := endV hp 21 (by decide) rfl (fun h => by cases h)
          try simp only [q6]
          clear hp
          go_wp2
          go_ret
          exact ⟨rfl, E6.trans hE⟩
end Go.Proofs.Ytnefipinicfegaa
