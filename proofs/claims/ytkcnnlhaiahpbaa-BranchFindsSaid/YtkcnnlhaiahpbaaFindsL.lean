/-
  The law BranchFinds returns true, whatever its rule and its lists are.
-/
import Derived.Test.YtkcnnlhaiahpbaaEvenL
namespace Go.Proofs.Ytkcnnlhaiahpbaa
open Go.RowKit
set_option linter.unusedVariables false
set_option linter.unusedSimpArgs false

/-- Is place j one to branch on? -/
def cnd (f : Nat → Bool × Rat) (m j : Nat) : Bool := decide (j < m) && (f j).1 && !decide ((f j).2.den = 1)
/-- Is one of the first k? -/
def anyN (f : Nat → Bool × Rat) (m : Nat) : Nat → Bool
  | 0 => false
  | k + 1 => anyN f m k || cnd f m k
set_option maxRecDepth 100000 in
set_option maxHeartbeats 1000000 in
theorem anyN_true {f : Nat → Bool × Rat} {m c : Nat} (hc : cnd f m c = true) : ∀ {k : Nat}, c < k → anyN f m k = true
  | 0, h => by omega
  | k + 1, h => by
    unfold anyN
    rcases Nat.eq_or_lt_of_le (Nat.lt_succ_iff.1 h) with rfl | hlt
    · rw [hc, Bool.or_true]
    · rw [anyN_true hc hlt, Bool.true_or]
set_option maxRecDepth 100000 in
set_option maxHeartbeats 1000000 in
theorem anyN_false {f : Nat → Bool × Rat} {m : Nat} : ∀ {k : Nat}, (∀ c, c < k → cnd f m c = false) → anyN f m k = false
  | 0, _ => rfl
  | k + 1, h => by
    unfold anyN
    rw [anyN_false fun c hc => h c (by omega), h k (by omega)]
    rfl

set_option maxRecDepth 100000 in
set_option maxHeartbeats 1000000 in
theorem slq_slr {w : World} {u : Value} {l : List (Bool × List Nat × List Nat)} (h : SLQ w u l) (hs : ∀ e ∈ l, e.2.1.length + e.2.2.length ≤ 6) (lim : 6 ≤ LIM) : SLR 6 w u (l.map ratE) := by
  obtain ⟨ad, cap, h1, h2, h3, h4⟩ := h
  refine ⟨ad, cap, by rw [List.length_map]; exact h1, by rw [List.length_map]; exact h2, h3, ?_⟩
  rcases h4 with h4 | ⟨g, off, h4, h5⟩
  · exact .inl (by rw [h4]; rfl)
  · refine .inr ⟨g, off, h4, fun i x hi => ?_⟩
    rw [List.getElem?_map] at hi
    cases he : l[i]? with
    | none => rw [he] at hi; cases hi
    | some e =>
      rw [he] at hi
      cases hi
      obtain ⟨cs, k1, k2, k3⟩ := h5 i e he
      have := hs e (List.mem_of_getElem? he)
      exact ⟨cs, k1, k2, k3.1.isR k3.2.1 k3.2.2.1 6 (by omega) (by omega) (by omega) lim⟩

set_option maxRecDepth 100000 in
set_option maxHeartbeats 8000000 in
theorem branchFinds_calls (r : Int) (wv xv : Value) (bs : List Bool) (l : List (Bool × List Nat × List Nat)) (w : World) (hw : SV (fun _ v b => v = .bool b) w wv bs) (hx : SLQ w xv l) :
    Calls Try.prog 10 #[.int .i64 r, wv, xv] w fun e w' => e = .returned (.bool true) ∧ Ext w w' := by
  have HW := Lib.hid (show ∀ wz, Ext w wz → SV (fun _ v b => v = .bool b) wz wv bs from fun wz he => hw.ext (fun _ _ h => h) he)
  have HX := Lib.hid hx
  obtain ⟨ad1, n1, cap1, hn1, rfl, hn1m, hat1⟩ := hw.opn
  obtain ⟨ad2, n2, cap2, hn2, rfl, hn2m, hat2⟩ := hx.at
  have Hat1 := Lib.hid hat1
  have Hat2 := Lib.hid hat2
  have Hn1 := Lib.hid hn1
  have Hn2 := Lib.hid hn2
  have lim : (4096 : Nat) ≤ LIM := by rw [LIM_eq]; omega
  clear hw hx hn1 hn2 hat1 hat2
  go_enter Try.func10, Try.ntmps10
  go_wp2_with fail
  refine (speaks21_calls _).mono ?_
  rintro e w2 ⟨rfl, e2⟩
  go_wp2_with fail
  refine (greatAll_calls _ l _ (HX.out.ext e2)).mono ?_
  rintro e w3 ⟨e3, hg⟩
  have E3 := e2.trans e3
  rcases hg with rfl | ⟨rfl, hl30, hall⟩
  · go_wp2
    go_ret
    exact ⟨rfl, E3⟩
  have Hl30 := Lib.hid hl30
  have Hall := Lib.hid hall
  clear hl30 hall
  by_cases hr : r = 0 ∨ r = 1
  · have HR := Lib.hid hr
    clear hr
    go_wp2_with fail
    refine (bnew_ok r HR.out _).mono ?_
    rintro e w4 ⟨rfl, ba, ma, e4⟩
    have Ba := Lib.hid ba
    have Ma := Lib.hid ma
    clear ba ma
    have E4 := E3.trans e4
    have SR := Lib.hid (show SLR 6 w4 (.slice ad2 n2 cap2) (l.map ratE) from slq_slr (HX.out.ext E4) Hall.out (by omega))
    go_wp2_with fail
    refine (choose_calls _ _ r _ _ bs (l.map ratE) _ Ba.out Ma.out (HW.out _ E4) SR.out (by rw [List.length_map]; exact Hl30.out)).mono ?_
    rw [List.length_map, ← Hn1.out, ← Hn2.out]
    obtain ⟨F, hF⟩ : ∃ F, F = plc bs (l.map ratE) := ⟨_, rfl⟩
    rw [← hF]
    have HF := Lib.hid hF
    obtain ⟨a, ha⟩ : ∃ a, a = cst r F (min n1 n2) := ⟨_, rfl⟩
    rw [← ha]
    have Ha := Lib.hid ha.symm
    clear hF ha
    rintro e w5 ⟨rfl, e5⟩
    have E5 := E4.trans e5
    obtain ⟨cv, ok, hres⟩ : ∃ (cv : Int) (ok : Bool), resC a = .tuple #[.int .i64 cv, .bool ok] := by
      cases a with
      | none => exact ⟨_, _, rfl⟩
      | some cb => exact ⟨_, _, rfl⟩
    rw [hres]
    have HRes := Lib.hid hres
    clear hres
    go_wp2_with fail
    go_loopw [11, 39] (fun any i wr => ∃ k : Nat, k ≤ n1 ∧ i = .int .i64 (k : Int) ∧ any = .bool (anyN F n2 k) ∧ Ext w wr) (fun _ i _ => ((n1 : Int) - intOf i).toNat)
    case atStart => exact ⟨0, Nat.zero_le _, rfl, rfl, E5⟩
    case round =>
      obtain ⟨k, hk, rfl, rfl, hE0⟩ := hrel
      rcases Nat.eq_or_lt_of_le hk with hkl | hkl
      · subst hkl
        cases a with
        | none =>
          have hany : anyN F n2 k = false := anyN_false fun c hc => by
            unfold cnd
            by_cases hcn : c < n2
            · rcases cst_none Ha.out c (by omega) with h | h
              · rw [h]; simp
              · rw [← whole_den, decide_eq_true h]; simp
            · rw [decide_eq_false hcn]; rfl
          rw [hany]
          have h2 := HRes.out
          cases h2
          go_wp2
          go_ret
          exact ⟨rfl, hE0⟩
        | some cb =>
          obtain ⟨c, b⟩ := cb
          have h2 := HRes.out
          cases h2
          obtain ⟨hcn, hc1, hc2, -⟩ := cst_some Ha.out
          have hck : c < k := by omega
          have hc2n : c < n2 := by omega
          have hden : decide ((F c).2.den = 1) = false := by rw [← whole_den]; exact decide_eq_false hc2
          have hany : anyN F n2 k = true := anyN_true (c := c) (by unfold cnd; rw [decide_eq_true hc2n, hc1, hden]; rfl) hck
          rw [hany]
          obtain ⟨bb, hbb⟩ : ∃ bb, bs[c]? = some bb := ⟨_, List.getElem?_eq_getElem (by rw [← Hn1.out]; omega)⟩
          obtain ⟨e, he⟩ : ∃ e, l[c]? = some e := ⟨_, List.getElem?_eq_getElem (by rw [← Hn2.out]; omega)⟩
          have HFk : F c = (bb, ratE e) := by
            rw [HF.out]
            unfold plc
            rw [List.getD, List.getD, hbb, List.getElem?_map, he]
            rfl
          rw [HFk] at hc1 hden
          have hbt : bb = true := hc1
          subst hbt
          have HD := Lib.hid (show decide ((ratE e).den = 1) = false from hden)
          obtain ⟨g1, off1, rfl, v1, hv1, rfl⟩ := Hat1.out c _ hbb
          obtain ⟨g2, off2, rfl, b0, a1, l1, c1, a2, l2, c2, hl1, hl2, hat⟩ := Hat2.out c e he
          have hs6 := Hall.out e (List.mem_of_getElem? he)
          have hcb := hv1 wr hE0
          have f0 := hat wr hE0
          have hc0 := f0.1
          have hc1' := f0.2.1
          have hc2' := f0.2.2.1
          have R0 := Lib.hid f0.2.2.2
          have hck' : (c : Int) < (k : Int) := by omega
          have hcn' : (c : Int) < (n2 : Int) := by omega
          clear f0 hat hv1 hl1 hl2 hbb he hc1 hc2 hden HFk hany hcn Hat1 Hat2 HW HX SR
          go_wp2_with fail
          refine (rqof3_calls _ _ _ _ (R0.out.1.isQ R0.out.2.1 R0.out.2.2.1 (by omega) (by omega)) (by have := rawN_szT (b := e.1) R0.out.2.1; omega) (by have := szTK_le (rawD e.2.2); have := rawD_sz R0.out.2.2.1; omega)).mono ?_
          rintro e' w6 ⟨v6, rfl, q6, e6⟩
          obtain ⟨b6, ad6, l6, cap6, bd6, m6, dap6, rfl, q6⟩ := q6.opn
          have hdq := (rawR_szD (b := e.1) R0.out.2.1 R0.out.2.2.1 6 (by omega) (by omega) (by omega)).2.2
          clear hcb hc0 hc1' hc2'
          go_wp2_with fail
          refine (rqiswhole3_calls _ _ _ q6.cq (show szD (rawR e.1 e.2.1 e.2.2) ≤ _ by omega)).mono ?_
          rw [show decide ((mkRat (rawN e.1 e.2.1) (rawD e.2.2)).den = 1) = false from HD.out]
          rintro e' w7 ⟨rfl, e7⟩
          go_wp2
          go_ret
          exact ⟨rfl, (hE0.trans e6).trans e7⟩
      · have hav : anyN F n2 (k + 1) = (anyN F n2 k || cnd F n2 k) := rfl
        have Hav := Lib.hid hav
        clear hav
        obtain ⟨av, hav⟩ : ∃ av, av = anyN F n2 k := ⟨_, rfl⟩
        rw [← hav]
        have Hav2 := Lib.hid hav.symm
        clear hav
        cases av with
        | true =>
          have HN := Lib.hid (show anyN F n2 (k + 1) = true by rw [Hav.out, Hav2.out]; rfl)
          go_wp2
          go_roundw
          case rel => exact ⟨k + 1, by omega, by simp, by rw [HN.out]; try rfl, hE0⟩
          case measure => simp [intOf]; omega
        | false =>
          have HN := Lib.hid (show anyN F n2 (k + 1) = cnd F n2 k by rw [Hav.out, Hav2.out]; rfl)
          by_cases hk2 : k < n2
          · obtain ⟨bb, hbb⟩ : ∃ bb, bs[k]? = some bb := ⟨_, List.getElem?_eq_getElem (by rw [← Hn1.out]; omega)⟩
            obtain ⟨e, he⟩ : ∃ e, l[k]? = some e := ⟨_, List.getElem?_eq_getElem (by rw [← Hn2.out]; omega)⟩
            have HFk := Lib.hid (show F k = (bb, ratE e) by
              rw [HF.out]
              unfold plc
              rw [List.getD, List.getD, hbb, List.getElem?_map, he]
              rfl)
            obtain ⟨g1, off1, rfl, v1, hv1, rfl⟩ := Hat1.out k _ hbb
            have hcb := hv1 wr hE0
            have hk2' : (k : Int) < (n2 : Int) := by omega
            cases bb with
            | false =>
              have HC := Lib.hid (show cnd F n2 k = false by unfold cnd; rw [HFk.out]; simp)
              clear hbb hv1 he
              go_wp2
              go_roundw
              case rel => exact ⟨k + 1, by omega, by simp, by rw [HN.out, HC.out]; try rfl, hE0⟩
              case measure => simp [intOf]; omega
            | true =>
              obtain ⟨g2, off2, rfl, b0, a1, l1, c1, a2, l2, c2, hl1, hl2, hat⟩ := Hat2.out k e he
              have hs6 := Hall.out e (List.mem_of_getElem? he)
              have f0 := hat wr hE0
              have hc0 := f0.1
              have hc1' := f0.2.1
              have hc2' := f0.2.2.1
              have R0 := Lib.hid f0.2.2.2
              have HC := Lib.hid (show cnd F n2 k = !decide ((ratE e).den = 1) by unfold cnd; rw [HFk.out, decide_eq_true hk2]; rfl)
              clear f0 hat hv1 hl1 hl2 hbb he
              go_wp2_with fail
              refine (rqof3_calls _ _ _ _ (R0.out.1.isQ R0.out.2.1 R0.out.2.2.1 (by omega) (by omega)) (by have := rawN_szT (b := e.1) R0.out.2.1; omega) (by have := szTK_le (rawD e.2.2); have := rawD_sz R0.out.2.2.1; omega)).mono ?_
              rintro e' w6 ⟨v6, rfl, q6, e6⟩
              obtain ⟨b6, ad6, l6, cap6, bd6, m6, dap6, rfl, q6⟩ := q6.opn
              have hdq := (rawR_szD (b := e.1) R0.out.2.1 R0.out.2.2.1 6 (by omega) (by omega) (by omega)).2.2
              clear hcb hc0 hc1' hc2'
              go_wp2_with fail
              refine (rqiswhole3_calls _ _ _ q6.cq (show szD (rawR e.1 e.2.1 e.2.2) ≤ _ by omega)).mono ?_
              obtain ⟨dd, hdd⟩ : ∃ dd, dd = decide ((ratE e).den = 1) := ⟨_, rfl⟩
              rw [show decide ((mkRat (rawN e.1 e.2.1) (rawD e.2.2)).den = 1) = dd from hdd.symm]
              have HDD := Lib.hid hdd.symm
              clear hdd
              rintro e' w7 ⟨rfl, e7⟩
              go_wp2
              go_roundw
              case rel => exact ⟨k + 1, by omega, by simp, by rw [HN.out, HC.out, HDD.out]; try rfl, (hE0.trans e6).trans e7⟩
              case measure => simp [intOf]; omega
          · have HC := Lib.hid (show cnd F n2 k = false by unfold cnd; rw [decide_eq_false hk2]; rfl)
            have hk2' : ¬ (k : Int) < (n2 : Int) := by omega
            go_wp2
            go_roundw
            case rel => exact ⟨k + 1, by omega, by simp, by rw [HN.out, HC.out]; try rfl, hE0⟩
            case measure => simp [intOf]; omega
  · have hr0 : r ≠ 0 := fun h => hr (.inl h)
    have hr1 : r ≠ 1 := fun h => hr (.inr h)
    clear hr
    go_wp2_with fail
    refine (bnew_bad r _ hr0 hr1).mono ?_
    rintro e w4 ⟨rfl, e4⟩
    go_wp2
    go_ret
    exact ⟨by simp [hr0, hr1], E3.trans e4⟩
end Go.Proofs.Ytkcnnlhaiahpbaa
