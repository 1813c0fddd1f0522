/-
  nat.Mul: products of any two numbers.
-/
import Derived.Test.YtnefipinicfegaaNatE
namespace Go.Proofs.Ytnefipinicfegaa
open Go.RowKit
set_option linter.unusedVariables false
set_option linter.unusedSimpArgs false

theorem kar (a0 a1 b0 b1 P : Nat) : a0 * b0 + P * ((a0 + a1) * (b0 + b1) - a0 * b0 - a1 * b1) + P * P * (a1 * b1) = (a0 + P * a1) * (b0 + P * b1) := by
  have h : (a0 + a1) * (b0 + b1) - a0 * b0 - a1 * b1 = a0 * b1 + a1 * b0 := by
    simp only [Nat.add_mul, Nat.mul_add]; omega
  rw [h]
  simp only [Nat.add_mul, Nat.mul_add]
  have e1 : P * a1 * b0 = P * (a1 * b0) := Nat.mul_assoc ..
  have e2 : a0 * (P * b1) = P * (a0 * b1) := by ac_rfl
  have e3 : P * a1 * (P * b1) = P * P * (a1 * b1) := by ac_rfl
  omega

theorem sz_shift (k x : Nat) : sz W (W ^ k * x) ≤ k + sz W x := by
  refine dg_len_le W_gt ?_
  rw [Nat.pow_add]
  exact Nat.mul_lt_mul_of_pos_left (dg_len_lt W_gt x) (Nat.pow_pos (by rw [W_eq]; omega))

theorem split_val {p : List Nat} {m h : Nat} (hm : m ≤ p.length) (h3 : m = h ∨ m = p.length) : val W p = val W (p.take m) + W ^ h * val W (p.drop m) := by
  rcases h3 with rfl | rfl
  · exact val_split p m hm
  · rw [List.take_of_length_le (Nat.le_refl _), List.drop_of_length_le (Nat.le_refl _)]; simp [val]

set_option maxHeartbeats 2000000 in
set_option maxRecDepth 100000 in
theorem mul_any (N : Nat) : ∀ (x y : Nat) (v u : Value) (w : World), sz W x + sz W y ≤ N → N ≤ 17592186044096 → IsN .u64 W w v x → IsN .u64 W w u y →
    Calls Try.prog 76 #[v, u] w fun e w' => ∃ v', e = .returned v' ∧ FrN 79 .u64 W w.heap.size w' v' (x * y) ∧ Ext w w' := by
  induction N using Nat.strongRecOn with
  | _ N ih =>
  intro x y v u w hN hN2 hv hu
  obtain ⟨xs, ⟨ad, cap, rfl, hlc, hcap, hr⟩, hlen, hd, hval⟩ := hv
  obtain ⟨ys, ⟨ad2, cap2, rfl, hlc2, hcap2, hr2⟩, hlen2, hd2, hval2⟩ := hu
  have Hx := Lib.hid (show tz xs = dg W x by rw [tz_eq_dg W_gt hd, hval])
  have Hy := Lib.hid (show tz ys = dg W y by rw [tz_eq_dg W_gt hd2, hval2])
  have htr : Rd w ad (vals .u64 (tz xs)) := by rw [← tz_take, vals_take]; exact hr.take _
  have htr2 : Rd w ad2 (vals .u64 (tz ys)) := by rw [← tz_take, vals_take]; exact hr2.take _
  have hl1 : (tz xs).length + (tz ys).length ≤ N := by rw [Hx.out, Hy.out]; exact hN
  have hpc : (tz xs).length ≤ cap := Nat.le_trans (tz_length_le xs) hlc
  have hqc : (tz ys).length ≤ cap2 := Nat.le_trans (tz_length_le ys) hlc2
  clear hval hval2 hN
  have IH := Lib.hid ih
  clear ih
  go_enter Try.func76, Try.ntmps76
  go_wp2_with fail
  refine (bare_calls ad _ cap xs w rfl hr hlc hcap).mono ?_
  rintro e w' ⟨rfl, rfl⟩
  go_wp2_with fail
  refine (bare_calls ad2 _ cap2 ys w rfl hr2 hlc2 hcap2).mono ?_
  rintro e w' ⟨rfl, rfl⟩
  clear hr hr2 hlen hlen2 hlc hlc2
  generalize tz xs = p at *
  generalize tz ys = q at *
  have dp : Dig W p := by rw [Hx.out]; exact (dg_can W_gt x).1
  have dq : Dig W q := by rw [Hy.out]; exact (dg_can W_gt y).1
  have Hp : Hid (val W p = x) := by show val W p = x; rw [Hx.out, dg_val W_gt]
  have Hq : Hid (val W q = y) := by show val W q = y; rw [Hy.out, dg_val W_gt]
  by_cases hb : p.length < 24 ∨ q.length < 24
  · have hs := simple_core ad ad2 cap cap2 p q w htr htr2 (by omega) (by omega) dp dq
    rw [Hp.out, Hq.out] at hs
    rcases Nat.lt_or_ge p.length 24 with h1 | h1
    · go_wp2_with fail
      refine hs.mono ?_
      rintro e w' ⟨v', rfl, hfr, hext⟩
      go_wp2
      go_ret
      exact ⟨v', rfl, hfr, hext⟩
    · have h2 : q.length < 24 := by omega
      go_wp2_with fail
      refine hs.mono ?_
      rintro e w' ⟨v', rfl, hfr, hext⟩
      go_wp2
      go_ret
      exact ⟨v', rfl, hfr, hext⟩
  · have h1 : 24 ≤ p.length := by omega
    have h2 : 24 ≤ q.length := by omega
    clear hb
    go_wp2_with fail
    obtain ⟨h, hh, hb1, hb2, hb3⟩ : ∃ h : Nat, max (p.length : Int) (q.length : Int) / 2 = (h : Int) ∧ p.length ≤ 2 * h + 1 ∧ q.length ≤ 2 * h + 1 ∧ (2 * h ≤ p.length ∨ 2 * h ≤ q.length) := ⟨max p.length q.length / 2, by omega, by omega, by omega, by omega⟩
    rw [hh]
    clear hh
    obtain ⟨m1, e1, c1, c2, c3⟩ : ∃ m : Nat, min (h : Int) (p.length : Int) = (m : Int) ∧ m ≤ h ∧ m ≤ p.length ∧ (m = h ∨ m = p.length) := ⟨min h p.length, by omega, by omega, by omega, by omega⟩
    obtain ⟨m2, e2, d1, d2, d3⟩ : ∃ m : Nat, min (h : Int) (q.length : Int) = (m : Int) ∧ m ≤ h ∧ m ≤ q.length ∧ (m = h ∨ m = q.length) := ⟨min h q.length, by omega, by omega, by omega, by omega⟩
    have ra0 := htr.take m1
    have ra1 := htr.cut m1 cap (by rw [vals_length]; exact hpc)
    have rb0 := htr2.take m2
    have rb1 := htr2.cut m2 cap2 (by rw [vals_length]; exact hqc)
    rw [← vals_take] at ra0 rb0
    rw [← vals_drop] at ra1 rb1
    go_quiet (fail)
    generalize (if cap = m1 then ad else Option.map (fun (x : Addr) => x.add m1) ad) = ada at ra1 ⊢
    go_wp2_with fail
    go_quiet (fail)
    generalize (if cap2 = m2 then ad2 else Option.map (fun (x : Addr) => x.add m2) ad2) = adb at rb1 ⊢
    have A0 := isN_of ra0 (by rw [List.length_take]; omega) (show m1 ≤ cap by omega) hcap (by omega) (dp.take m1) rfl
    have A1 := isN_of ra1 (by rw [List.length_drop]) (show p.length - m1 ≤ cap - m1 by omega) (by omega) (by omega) (dp.drop m1) rfl
    have B0 := isN_of rb0 (by rw [List.length_take]; omega) (show m2 ≤ cap2 by omega) hcap2 (by omega) (dq.take m2) rfl
    have B1 := isN_of rb1 (by rw [List.length_drop]) (show q.length - m2 ≤ cap2 - m2 by omega) (by omega) (by omega) (dq.drop m2) rfl
    have s0 : sz W (val W (p.take m1)) ≤ m1 := by have := dg_len_val W_gt (dp.take m1); rw [List.length_take] at this; unfold sz; omega
    have s1 : sz W (val W (p.drop m1)) ≤ p.length - m1 := by have := dg_len_val W_gt (dp.drop m1); rw [List.length_drop] at this; exact this
    have t0 : sz W (val W (q.take m2)) ≤ m2 := by have := dg_len_val W_gt (dq.take m2); rw [List.length_take] at this; unfold sz; omega
    have t1 : sz W (val W (q.drop m2)) ≤ q.length - m2 := by have := dg_len_val W_gt (dq.drop m2); rw [List.length_drop] at this; exact this
    have Hfin : Hid (x * y = _) := (show x * y = (val W (p.take m1) + W ^ h * val W (p.drop m1)) * (val W (q.take m2) + W ^ h * val W (q.drop m2)) by
      rw [← split_val c2 c3, ← split_val d2 d3, Hp.out, Hq.out])
    generalize val W (p.take m1) = a0 at *
    generalize val W (p.drop m1) = a1 at *
    generalize val W (q.take m2) = b0 at *
    generalize val W (q.drop m2) = b1 at *
    clear ra0 ra1 rb0 rb1 htr htr2 hpc hqc
    have q1 := dg_len_mul W_gt a0 b0
    have q2 := dg_len_mul W_gt a1 b1
    have q3 := dg_len_add W_gt a0 a1
    have q4 := dg_len_add W_gt b0 b1
    have q5 := dg_len_mul W_gt (a0 + a1) (b0 + b1)
    have q6 : sz W (a1 * b1) = 0 ∨ (sz W a1 ≠ 0 ∧ sz W b1 ≠ 0) := by
      by_cases ha : a1 = 0
      · left; rw [ha, Nat.zero_mul]; rfl
      · by_cases hb : b1 = 0
        · left; rw [hb, Nat.mul_zero]; rfl
        · right
          exact ⟨fun h => ha ((dg_eq_nil W_gt).1 (List.eq_nil_of_length_eq_zero h)), fun h => hb ((dg_eq_nil W_gt).1 (List.eq_nil_of_length_eq_zero h))⟩
    change sz W (a0 * b0) ≤ sz W a0 + sz W b0 at q1
    change sz W (a1 * b1) ≤ sz W a1 + sz W b1 at q2
    change sz W (a0 + a1) ≤ max (sz W a0) (sz W a1) + 1 at q3
    change sz W (b0 + b1) ≤ max (sz W b0) (sz W b1) + 1 at q4
    change sz W ((a0 + a1) * (b0 + b1)) ≤ sz W (a0 + a1) + sz W (b0 + b1) at q5
    go_wp2_with fail
    refine (IH.out (N - 1) (by omega) a0 b0 _ _ _ (by omega) (by omega) (A0.ext ((Ext.refl w).drews _)) (B0.ext ((Ext.refl w).drews _))).mono ?_
    rintro e w1 ⟨vl, rfl, hlow, E1⟩
    have F1 := ((Ext.refl w).drews _).trans E1
    go_wp2_with fail
    refine (IH.out (N - 1) (by omega) a1 b1 _ _ _ (by omega) (by omega) (A1.ext F1) (B1.ext F1)).mono ?_
    rintro e w2 ⟨vh, rfl, hhigh, E2⟩
    have F2 := F1.trans E2
    go_wp2_with fail
    refine (add_calls _ _ a0 a1 _ (A0.ext F2) (A1.ext F2)).mono ?_
    rintro e w3 ⟨va, rfl, hsa, E3⟩
    have F3 := F2.trans E3
    go_wp2_with fail
    refine (add_calls _ _ b0 b1 _ (B0.ext F3) (B1.ext F3)).mono ?_
    rintro e w4 ⟨vb, rfl, hsb, E4⟩
    go_wp2_with fail
    refine (IH.out (N - 1) (by omega) (a0 + a1) (b0 + b1) _ _ _ (by omega) (by omega) ((hsa.isC.ext E4).isN W_gt (by rw [LIM_eq]; omega)) (hsb.isC.isN W_gt (by rw [LIM_eq]; omega))).mono ?_
    rintro e w5 ⟨vm, rfl, hm, E5⟩
    have G2 := E3.trans (E4.trans E5)
    have le1 : a0 * b0 ≤ (a0 + a1) * (b0 + b1) := Nat.mul_le_mul (by omega) (by omega)
    have le2 : a1 * b1 ≤ (a0 + a1) * (b0 + b1) - a0 * b0 := by
      have e : (a0 + a1) * (b0 + b1) = a0 * b0 + a0 * b1 + (a1 * b0 + a1 * b1) := by simp only [Nat.add_mul, Nat.mul_add]; omega
      omega
    go_wp2_with fail
    refine (less_calls _ _ _ _ _ (hm.isC.isN W_gt (by rw [LIM_eq]; omega)) (hlow.isC.ext (E2.trans G2)) le1).mono ?_
    rintro e w6 ⟨vm1, rfl, hm1, E6⟩
    have z1 : sz W ((a0 + a1) * (b0 + b1) - a0 * b0) ≤ sz W ((a0 + a1) * (b0 + b1)) := dg_len_mono W_gt (by omega)
    go_wp2_with fail
    refine (less_calls _ _ _ _ _ (hm1.isC.isN W_gt (by rw [LIM_eq]; omega)) (hhigh.isC.ext (G2.trans E6)) le2).mono ?_
    rintro e w7 ⟨vm2, rfl, hm2, E7⟩
    have z2 : sz W ((a0 + a1) * (b0 + b1) - a0 * b0 - a1 * b1) ≤ sz W ((a0 + a1) * (b0 + b1)) := dg_len_mono W_gt (by omega)
    go_wp2_with fail
    refine (moved_isN _ _ h _ hm2.isC (by omega)).mono ?_
    rintro e w8 ⟨vs, rfl, hs, E8⟩
    have G3 := E2.trans (G2.trans (E6.trans (E7.trans E8)))
    go_wp2_with fail
    refine (add_calls _ _ _ _ _ ((hlow.isC.ext G3).isN W_gt (by rw [LIM_eq]; omega)) hs).mono ?_
    rintro e w9 ⟨vt, rfl, ht, E9⟩
    have G4 := G2.trans (E6.trans (E7.trans (E8.trans E9)))
    go_wp2_with fail
    rw [show (2 : Int) * (h : Int) = ((2 * h : Nat) : Int) from by omega]
    refine (moved_isN _ _ (2 * h) _ (hhigh.isC.ext G4) (by omega)).mono ?_
    rintro e w10 ⟨vs2, rfl, hs2, E10⟩
    have z3 := dg_len_add W_gt (a0 * b0) (W ^ h * ((a0 + a1) * (b0 + b1) - a0 * b0 - a1 * b1))
    change sz W (a0 * b0 + W ^ h * ((a0 + a1) * (b0 + b1) - a0 * b0 - a1 * b1)) ≤ max (sz W (a0 * b0)) (sz W (W ^ h * ((a0 + a1) * (b0 + b1) - a0 * b0 - a1 * b1))) + 1 at z3
    have z4 := sz_shift h ((a0 + a1) * (b0 + b1) - a0 * b0 - a1 * b1)
    go_wp2_with fail
    refine (add_calls _ _ _ _ _ ((ht.isC.ext E10).isN W_gt (by rw [LIM_eq]; omega)) hs2).mono ?_
    rintro e w11 ⟨vr, rfl, hres, E11⟩
    go_wp2
    go_ret
    have E := F1.trans (E2.trans (G4.trans (E10.trans E11)))
    refine ⟨vr, rfl, ?_, E⟩
    have e := kar a0 a1 b0 b1 (W ^ h)
    rw [Hfin.out, ← e, ← Nat.pow_add, ← Nat.two_mul]
    exact hres.mono (F1.trans (E2.trans (G4.trans E10))).size

/-- nat.Mul. -/
theorem mul_calls (x y : Nat) (v u : Value) (w : World) (h : sz W x + sz W y ≤ 17592186044096) (hv : IsN .u64 W w v x) (hu : IsN .u64 W w u y) :
    Calls Try.prog 76 #[v, u] w fun e w' => ∃ v', e = .returned v' ∧ FrN 79 .u64 W w.heap.size w' v' (x * y) ∧ Ext w w' :=
  mul_any _ x y v u w (Nat.le_refl _) h hv hu
end Go.Proofs.Ytnefipinicfegaa
