/-
 The documents' vectors: a times one, and another one (Axpy).
-/
import Derived.Test.YtdmjgjcljbogiaaVrfT
import Derived.Test.YtdmjgjcljbogiaaVfcT
import Derived.Laws.MakeOwn
import Derived.Test.YtdmjgjcljbogiaaComT
import Derived.Test.YtdmjgjcljbogiaaSstT
namespace Go.Proofs.Ytdmjgjcljbogiaa
set_option maxRecDepth 100000
set_option maxHeartbeats 1000000
open Go.RowKit
set_option linter.unusedVariables false
set_option linter.unusedSimpArgs false
theorem TL.news {k : Nat} {w : World} {v : Value} {l : List (Int × Rat)} (h : TL k w v l) : ∃ ad m cap, v = .slice ad m cap ∧ m = l.length ∧ m ≤ 9223372036854775807 ∧ ∃ ps : Ps, ps.length = m ∧ lP ps = l ∧ (∀ p ∈ ps, IsR w (ratv p.1) p.2 k) ∧ ((ad = Option.none ∧ m = 0) ∨ ∃ a, ad = some a ∧ ∀ wz, Ext w wz → ∀ (j : Nat) (u : Value), (flatS ((tsP ps).map tmv))[j]? = some u → wz.cell? (a.add j) = some u) := by
 obtain ⟨ad, m, cap, hm, rfl, hm1, hat⟩ := h.at
 cases ad with
 | none =>
  have h0 : l = [] := by
   match l, hat with
   | [], _ => rfl
   | x :: l, hat =>
    obtain ⟨g, off, h, -⟩ := hat 0 x rfl
    cases h
  subst h0
  exact ⟨_, _, _, rfl, hm, hm1, [], hm.symm, rfl, (fun p hp => by cases hp), .inl ⟨rfl, hm⟩⟩
 | some a =>
  obtain ⟨g, off, sp⟩ := a
  obtain ⟨ps, hps, hat2⟩ := exists_list (p := fun i (y : TmC × Rat) => ∃ x, l[i]? = some x ∧ y.1.c = x.1 ∧ y.2 = x.2 ∧ IsR w (ratv y.1) y.2 k ∧ sp = Option.none ∧ ∀ wz, Ext w wz → ∀ (j : Nat) (u : Value), (#[.int .i64 y.1.c, .bool y.1.b, .slice y.1.a1 y.1.n1 y.1.c1, .slice y.1.a2 y.1.n2 y.1.c2] : Array Value)[j]? = some u → wz.cell? ⟨g, off + (i * 4 + j), Option.none⟩ = some u) m (fun i hi => by
   obtain ⟨x, hx⟩ : ∃ x, l[i]? = some x := ⟨_, List.getElem?_eq_getElem (by omega)⟩
   obtain ⟨g', off', h1, b, a1, n1, c1, a2, n2, c2, hc⟩ := hat i x hx
   cases h1
   refine ⟨(⟨x.1, b, a1, n1, c1, a2, n2, c2⟩, x.2), x, hx, rfl, rfl, (hc w (Ext.refl w)).2.2.2.2, rfl, fun wz hz j u hj => ?_⟩
   obtain ⟨k0, k1, k2, k3, k4⟩ := hc wz hz
   match j, hj with
   | 0, hj => cases hj; exact k0
   | 1, hj => cases hj; exact k1
   | 2, hj => cases hj; exact k2
   | 3, hj => cases hj; exact k3
   | j + 4, hj => simp at hj)
  have hlP : lP ps = l := by
   apply List.ext_getElem?
   intro i
   unfold lP
   rw [List.getElem?_map]
   cases hi : ps[i]? with
   | none =>
    rw [Option.map_none]
    have := List.getElem?_eq_none_iff.1 hi
    exact (List.getElem?_eq_none (by omega)).symm
   | some y =>
    obtain ⟨x, h1, h2, h3, -⟩ := hat2 i y hi
    rw [Option.map_some, h1, h2, h3]
  have hR : ∀ p ∈ ps, IsR w (ratv p.1) p.2 k := fun p hp => by
   obtain ⟨i, hi, rfl⟩ := List.mem_iff_getElem.1 hp
   obtain ⟨x, h1, h2, h3, h4, -⟩ := hat2 i _ (List.getElem?_eq_getElem hi)
   exact h4
  refine ⟨_, _, _, rfl, hm, hm1, ps, hps, hlP, hR, .inr ⟨_, rfl, fun wz hz => ?_⟩⟩
  have hcell : ∀ (j : Nat) (u : Value), (flatS ((tsP ps).map tmv))[j]? = some u → wz.cell? ⟨g, off + j, Option.none⟩ = some u := by
   refine flatS_cells (n := 4) (by omega) (strN_tmv _) (p := fun j u => wz.cell? ⟨g, off + j, Option.none⟩ = some u) fun i cs hi r u hr => ?_
   unfold tsP at hi
   rw [List.getElem?_map, List.getElem?_map] at hi
   cases hpi : ps[i]? with
   | none => rw [hpi] at hi; cases hi
   | some y =>
    rw [hpi] at hi
    simp only [Option.map_some, Option.some.injEq] at hi
    unfold tmv at hi
    cases hi
    obtain ⟨x, -, -, -, -, -, h5⟩ := hat2 i y hpi
    exact h5 wz hz r u hr
  intro j u hj
  have h0 : 0 < m := by
   have := (List.getElem?_eq_some_iff.1 hj).1
   rw [flatS_len (strN_tmv _).size, List.length_map] at this
   unfold tsP at this
   rw [List.length_map, hps] at this
   omega
  obtain ⟨y, hy⟩ : ∃ y, ps[0]? = some y := ⟨_, List.getElem?_eq_getElem (by omega)⟩
  obtain ⟨x, -, -, -, -, h5, -⟩ := hat2 0 y hy
  rw [h5, Addr.add_lit]
  exact hcell j u hj
end Go.Proofs.Ytdmjgjcljbogiaa
/-
 The documents' lists of numbers: great, copied, the same.
-/
namespace Go.Proofs.Ytdmjgjcljbogiaa
set_option maxRecDepth 100000
set_option maxHeartbeats 1000000
open Go.RowKit
set_option linter.unusedVariables false
set_option linter.unusedSimpArgs false
theorem SLQ.ql {w : World} {u : Value} {l : List RE} (h : SLQ w u l) (k : Nat) (hk : 1 ≤ k) (hk2 : k ≤ LIM) (hl : ∀ e ∈ l, e.2.1.length + e.2.2.length ≤ k) : QL k w u (l.map ratE) := by
 obtain ⟨ad, cap, h1, h2, h3, h4⟩ := h
 refine ⟨ad, cap, by rw [List.length_map]; exact h1, by rw [List.length_map]; exact h2, h3, ?_⟩
 rcases h4 with h4 | ⟨g, off, h4, h5⟩
 ·exact .inl (by rw [h4]; rfl)
 ·refine .inr ⟨g, off, h4, fun i x hi => ?_⟩
  rw [List.getElem?_map] at hi
  cases he : l[i]? with
  | none => rw [he] at hi; cases hi
  | some e =>
   rw [he] at hi
   simp only [Option.map_some, Option.some.injEq] at hi
   subst hi
   obtain ⟨cs, k1, k2, k4⟩ := h5 i e he
   have := hl e (List.mem_of_getElem? he)
   exact ⟨cs, k1, k2, k4.1.isR k4.2.1 k4.2.2.1 k (by omega) (by omega) hk hk2⟩
set_option maxHeartbeats 4000000 in
theorem greatAll_calls (v : Value) (l : List RE) (w : World) (hv : SLQ w v l) :
  Calls Try.prog 54 #[v] w fun e w' => e = .returned (.bool (greatE l)) ∧ Ext w w' := by
 obtain ⟨ad, n, cap, hnl, rfl, hn1, hat⟩ := hv.at
 have HV := Lib.hid hv
 have HN := Lib.hid hnl
 have HAT := Lib.hid hat
 clear hnl hat hv
 go_enter Try.func54, Try.ntmps54
 go_wp2_with fail
 go_loopw [3] (fun s wr => ∃ i : Nat, i ≤ n ∧ s = .int .i64 (i : Int) ∧ Hid (∀ e ∈ l.take i, wordsE e ≤ 6) ∧ Ext w wr) (fun s _ => ((n : Int) - intOf s).toNat)
 case atStart => exact ⟨0, Nat.zero_le _, rfl, Lib.hid (fun e he => by simp at he), Ext.refl _⟩
 case round =>
  obtain ⟨i, hi, rfl, hS, hE0⟩ := hrel
  rcases Nat.eq_or_lt_of_le hi with hin | hin
  ·subst hin
   have hlt : ¬ ((i : Int) < (i : Int)) := by omega
   have hall : ∀ e ∈ l, wordsE e ≤ 6 := by have := hS.out; rwa [HN.out, List.take_length] at this
   have hG : greatE l = (decide (30 < i) || decide (18 < weightE l)) := by
    rw [greatE_rest hall, ← HN.out]
   have HG := Lib.hid hG
   have HALL := Lib.hid hall
   clear hG hall
   by_cases h30 : 30 < i
   ·have h30' : (30 : Int) < (i : Int) := by omega
    have HR : Hid (greatE l = true) := Lib.hid (by rw [HG.out, decide_eq_true h30]; rfl)
    go_wp2
    go_ret
    exact ⟨by rw [HR.out] <;> rfl, hE0⟩
   ·have h30' : ¬ (30 : Int) < (i : Int) := by omega
    have HR : Hid (greatE l = decide (18 < weightE l)) := Lib.hid (by rw [HG.out, decide_eq_false h30]; rfl)
    go_wp2_with fail
    refine (weight_calls _ l wr (HV.out.ext hE0) (by rw [← HN.out]; omega) HALL.out).mono ?_
    rintro e w2 ⟨rfl, e2⟩
    obtain ⟨p, hp⟩ : ∃ p, p = weightE l := ⟨_, rfl⟩
    rw [← hp] at HR ⊢
    clear hp
    by_cases h18 : 18 < p
    ·have h18' : (18 : Int) < (p : Int) := by omega
     have HR2 : Hid (greatE l = true) := Lib.hid (by rw [HR.out, decide_eq_true h18])
     go_wp2
     go_ret
     exact ⟨by rw [HR2.out] <;> rfl, hE0.trans e2⟩
    ·have h18' : ¬ (18 : Int) < (p : Int) := by omega
     have hd18 : decide ((18 : Int) < (p : Int)) = false := decide_eq_false h18'
     have HR2 : Hid (greatE l = false) := Lib.hid (by rw [HR.out, decide_eq_false h18])
     go_wp2
     go_ret
     exact ⟨by rw [HR2.out] <;> rfl, hE0.trans e2⟩
  ·have hlt : (i : Int) < (n : Int) := by omega
   obtain ⟨⟨xb, xs, xt⟩, hx⟩ : ∃ x, l[i]? = some x := ⟨_, List.getElem?_eq_getElem (by rw [← HN.out]; exact hin)⟩
   obtain ⟨g, off, rfl, b, a1, n1, c1, a2, n2, c2, -, -, hcell⟩ := HAT.out i _ hx
   obtain ⟨hc0, hc1, hc2, hR⟩ := hcell wr hE0
   have HRX := Lib.hid hR
   have HX := Lib.hid hx
   obtain ⟨p, hp⟩ : ∃ p, p = xs.length + xt.length := ⟨_, rfl⟩
   have HP := Lib.hid hp
   obtain ⟨i1, hi1⟩ : ∃ i1, i1 = i + 1 := ⟨_, rfl⟩
   have hi1' : (i : Int) + 1 = (i1 : Int) := by omega
   have hi1n : i1 ≤ n := by omega
   have HI1 := Lib.hid hi1
   clear hcell hx hR hp hi1
   go_wp2_with fail
   refine (rqwords3_calls _ xb xs xt wr HRX.out.1 HRX.out.2.2.2).mono ?_
   rintro e w2 ⟨rfl, e2⟩
   rw [← HP.out]
   by_cases h6 : 6 < p
   ·have h6' : (6 : Int) < (p : Int) := by omega
    have HR : Hid (greatE l = true) := Lib.hid (greatE_words (i := i) (e := (xb, xs, xt)) HX.out (by show 6 < xs.length + xt.length; rw [← HP.out]; exact h6))
    go_wp2
    go_ret
    exact ⟨by rw [HR.out] <;> rfl, hE0.trans e2⟩
   ·have h6' : ¬ (6 : Int) < (p : Int) := by omega
    have hs : ∀ e ∈ l.take i1, wordsE e ≤ 6 := by
     rw [HI1.out, List.take_add_one, HX.out]
     intro e he
     rcases List.mem_append.1 he with he | he
     ·exact hS.out e he
     ·simp only [Option.toList_some, List.mem_singleton] at he
      subst he
      show xs.length + xt.length ≤ 6
      rw [← HP.out]
      omega
    have HS := Lib.hid hs
    clear hs
    go_wp2
    go_roundw
    case rel => exact ⟨i1, hi1n, rfl, HS, hE0.trans e2⟩
    case measure => have := HI1.out; simp [intOf]; omega
def FrE (B : Nat) (w : World) (v : Value) (e : RE) : Prop := FrR B w v e.1 e.2.1 e.2.2
theorem FrE.grow {B : Nat} {w w' : World} {v : Value} {e : RE} {lv : Value} {vs : List Value} (h : FrE B w v e) (hls : LS 28 3 B w lv vs) (hg : w.grownBy w' lv.ownBlock) : FrE B w' v e := by
 rcases hls.2.2 with ⟨h1, h2⟩ | ⟨g', cap', cur, h1, h2, h3, h4⟩
 ·rw [h1] at hg
  exact FrR.ext h hg
 ·rw [h1] at hg
  exact FrR.chgB h hg h3 (by decide)
set_option maxHeartbeats 4000000 in
theorem sameAll3_calls (v u : Value) (l m : List RE) (w : World) (hv : SLQ w v l) (hu : SLQ w u m) :
  Calls Try.prog 48 #[v, u] w fun e w' => e = .returned (.bool (decide (l = m))) ∧ Ext w w' := by
 obtain ⟨ad, n, cap, hn, rfl, hn1, hat⟩ := hv.at
 obtain ⟨ad2, n2, cap2, hm, rfl, hm1, hat2⟩ := hu.at
 have HN := Lib.hid hn
 have HM := Lib.hid hm
 have HAT := Lib.hid hat
 have HAT2 := Lib.hid hat2
 clear hn hm hat hat2 hv hu
 go_enter Try.func48, Try.ntmps48
 by_cases hnm : n = n2
 ·subst hnm
  have hz : ¬ ((n : Int) ≠ (n : Int)) := by simp
  go_wp2_with fail
  go_loopw [5] (fun s wr => ∃ i : Nat, i ≤ n ∧ s = .int .i64 (i : Int) ∧ Hid (l.take i = m.take i) ∧ Ext w wr) (fun s _ => ((n : Int) - intOf s).toNat)
  case atStart => exact ⟨0, Nat.zero_le _, rfl, Lib.hid rfl, Ext.refl _⟩
  case round =>
   obtain ⟨i, hi, rfl, hT, hE0⟩ := hrel
   rcases Nat.eq_or_lt_of_le hi with hin | hin
   ·subst hin
    have hlt : ¬ ((i : Int) < (i : Int)) := by omega
    have he : l = m := by have := hT.out; rwa [HN.out, List.take_length, ← HN.out, HM.out, List.take_length] at this
    have HR := Lib.hid (decide_eq_true he)
    clear he
    go_wp2
    go_ret
    exact ⟨by rw [HR.out] <;> rfl, hE0⟩
   ·have hlt : (i : Int) < (n : Int) := by omega
    obtain ⟨⟨xb, xs, xt⟩, hx⟩ : ∃ x, l[i]? = some x := ⟨_, List.getElem?_eq_getElem (by rw [← HN.out]; exact hin)⟩
    obtain ⟨⟨yb, ys, yt⟩, hy⟩ : ∃ x, m[i]? = some x := ⟨_, List.getElem?_eq_getElem (by rw [← HM.out]; exact hin)⟩
    obtain ⟨g, off, rfl, b1, a1, n1, c1, a2, n2, c2, -, -, hc⟩ := HAT.out i _ hx
    obtain ⟨g', off', rfl, b1', a1', n1', c1', a2', n2', c2', -, -, hc'⟩ := HAT2.out i _ hy
    have HC3 : Hid (∀ wz, Ext w wz → ∀ (j : Nat) (v : Value), (#[.bool b1, .slice a1 n1 c1, .slice a2 n2 c2] : Array Value)[j]? = some v → wz.cell? ⟨g, off + i * 3 + j, none⟩ = some v) := Lib.hid fun wz hz j v hj => by
     obtain ⟨k1, k2, k3, -⟩ := hc wz hz
     match j, hj with
     | 0, hj => cases hj; exact k1
     | 1, hj => cases hj; exact k2
     | 2, hj => cases hj; exact k3
     | j + 3, hj => simp at hj
    have HC3' : Hid (∀ wz, Ext w wz → ∀ (j : Nat) (v : Value), (#[.bool b1', .slice a1' n1' c1', .slice a2' n2' c2'] : Array Value)[j]? = some v → wz.cell? ⟨g', off' + i * 3 + j, none⟩ = some v) := Lib.hid fun wz hz j v hj => by
     obtain ⟨k1, k2, k3, -⟩ := hc' wz hz
     match j, hj with
     | 0, hj => cases hj; exact k1
     | 1, hj => cases hj; exact k2
     | 2, hj => cases hj; exact k3
     | j + 3, hj => simp at hj
    have HR := Lib.hid (hc wr hE0).2.2.2
    have HR' := Lib.hid (hc' wr hE0).2.2.2
    have HXY := Lib.hid (And.intro hx hy)
    obtain ⟨s, hs⟩ : ∃ s : Bool, s = decide ((xb = yb ∧ xs = ys) ∧ xt = yt) := ⟨_, rfl⟩
    have HS := Lib.hid hs
    clear hc hc' hx hy hs
    go_wp2_with fail
    refine wp_region_puts [] [PP.val (.slice (some ⟨g, off, none⟩) n cap), PP.val (.int .i64 (i : Int)), PP.val (.pointer (some ⟨g, off + i * 3, none⟩)), PP.val (.agg #[.bool b1, .slice a1 n1 c1, .slice a2 n2 c2]), PP.val (.slice (some ⟨g', off', none⟩) n cap2), PP.val (.int .i64 (i : Int)), PP.val (.pointer (some ⟨g', off' + i * 3, none⟩)), PP.val (.agg #[.bool b1', .slice a1' n1' c1', .slice a2' n2' c2']), PP.val (.bool s), PP.val (.bool (!s))] [] [0, 1, 2, 3, 4, 5, 6, 7, 8, 9]
     (by kernel_rfl) (by kernel_rfl) (fun f => (by simp only [fillR, fillL, List.setIfInBounds_toArray, List.set_cons_succ, List.set_cons_zero, Nat.reduceAdd]; rfl)) ?_ ?_ ?_ ?_ ?_
    ·intro x hx; cases hx
    ·intro x hx; cases hx
    ·intro x hx; cases hx
    ·refine ⟨?o0, ?o1, ?o2, ?o3, ?o4, ?o5, ?o6, ?o7, ?o8, ?o9, trivial⟩
     case o0 =>
      intro f w6 hG hp hl
      have hE : Ext wr w6 := hG
      have hS := hE.size
      simp only [OpGoal]
      go_simp
      exact ⟨_, rfl, Ext.refl _, rfl⟩
     case o1 =>
      intro f w6 hG hp hl
      have hE : Ext wr w6 := hG
      have hS := hE.size
      simp only [OpGoal]
      go_simp
      exact ⟨_, rfl, Ext.refl _, rfl⟩
     case o2 =>
      intro f w6 hG hp hl
      have hE : Ext wr w6 := hG
      have hS := hE.size
      have q17 : f 0 = .slice (some ⟨g, off, none⟩) n cap := tellV hp 0 0 rfl rfl (fun h => by cases h)
      have q18 : f 1 = .int .i64 (i : Int) := tellV hp 1 1 rfl rfl (fun h => by cases h)
      simp only [OpGoal]
      go_simp
      exact ⟨_, rfl, Ext.refl _, rfl⟩
     case o3 =>
      intro f w6 hG hp hl
      have hE : Ext wr w6 := hG
      have hS := hE.size
      have q19 : f 2 = .pointer (some ⟨g, off + i * 3, none⟩) := tellV hp 0 2 rfl rfl (fun h => by cases h)
      change OpGoal _ _ _ f w6 Ext _
      exact og_loadAt (P := Try.prog) _ _ g (off + i * 3) _ _ rfl rfl q19 (fun j v h => HC3.out _ (hE0.trans hE) j v h) Try.underlying28 rfl (by kernel_rfl) rfl
     case o4 =>
      intro f w6 hG hp hl
      have hE : Ext wr w6 := hG
      have hS := hE.size
      simp only [OpGoal]
      go_simp
      exact ⟨_, rfl, Ext.refl _, rfl⟩
     case o5 =>
      intro f w6 hG hp hl
      have hE : Ext wr w6 := hG
      have hS := hE.size
      simp only [OpGoal]
      go_simp
      exact ⟨_, rfl, Ext.refl _, rfl⟩
     case o6 =>
      intro f w6 hG hp hl
      have hE : Ext wr w6 := hG
      have hS := hE.size
      have q21 : f 4 = .slice (some ⟨g', off', none⟩) n cap2 := tellV hp 0 4 rfl rfl (fun h => by cases h)
      have q22 : f 5 = .int .i64 (i : Int) := tellV hp 1 5 rfl rfl (fun h => by cases h)
      simp only [OpGoal]
      go_simp
      exact ⟨_, rfl, Ext.refl _, rfl⟩
     case o7 =>
      intro f w6 hG hp hl
      have hE : Ext wr w6 := hG
      have hS := hE.size
      have q23 : f 6 = .pointer (some ⟨g', off' + i * 3, none⟩) := tellV hp 0 6 rfl rfl (fun h => by cases h)
      change OpGoal _ _ _ f w6 Ext _
      exact og_loadAt (P := Try.prog) _ _ g' (off' + i * 3) _ _ rfl rfl q23 (fun j v h => HC3'.out _ (hE0.trans hE) j v h) Try.underlying28 rfl (by kernel_rfl) rfl
     case o8 =>
      intro f w6 hG hp hl
      have hE : Ext wr w6 := hG
      have hS := hE.size
      have q20 : f 3 = .agg #[.bool b1, .slice a1 n1 c1, .slice a2 n2 c2] := tellV hp 0 3 rfl rfl (fun h => by cases h)
      have q24 : f 7 = .agg #[.bool b1', .slice a1' n1' c1', .slice a2' n2' c2'] := tellV hp 1 7 rfl rfl (fun h => by cases h)
      change OpGoal _ _ _ f w6 Ext _
      refine og_call (P := Try.prog) _ _ _ #[f 3, f 7] Try.func15 (by kernel_rfl) (by kernel_rfl) rfl rfl (by kernel_rfl) ?_
      rw [q20, q24]
      refine (rqsame3_calls _ _ xb yb xs xt ys yt _ (HR.out.1.ext hE) (HR'.out.1.ext hE)).mono ?_
      rintro e w' ⟨rfl, h2⟩
      exact ⟨_, rfl, h2, congrArg Value.bool HS.out.symm⟩
     case o9 =>
      intro f w6 hG hp hl
      have hE : Ext wr w6 := hG
      have hS := hE.size
      have q25 : f 8 = .bool s := tellV hp 0 8 rfl rfl (fun h => by cases h)
      simp only [OpGoal]
      go_simp
      exact ⟨_, rfl, Ext.refl _, rfl⟩
    ·intro f w6 hG hp
     have hE : Ext wr w6 := ChgS.nil hG
     have q26 : f 9 = .bool (!s) := endV hp 9 (by decide) rfl (fun h => by cases h)
     try simp only [q26]
     clear hp
     cases s with
     | true =>
      have ht : l.take (i + 1) = m.take (i + 1) := by
       have h1 := HS.out
       have h2 := of_decide_eq_true h1.symm
       rw [List.take_add_one, List.take_add_one, HXY.out.1, HXY.out.2, hT.out, h2.1.1, h2.1.2, h2.2]
      have HT := Lib.hid ht
      clear ht
      go_wp2
      go_roundw
      case rel => exact ⟨i + 1, by omega, congrArg (Value.int .i64) (by omega), HT, hE0.trans hE⟩
      case measure => simp [intOf]; omega
     | false =>
      have he : l ≠ m := fun h => by
       have h1 := of_decide_eq_false HS.out.symm
       have h2 := HXY.out.1.symm.trans ((congrArg (fun z => z[i]?) h).trans HXY.out.2)
       simp only [Option.some.injEq, Prod.mk.injEq] at h2
       exact h1 ⟨⟨h2.1, h2.2.1⟩, h2.2.2⟩
      have HR := Lib.hid (decide_eq_false he)
      clear he
      go_wp2
      go_ret
      exact ⟨by rw [HR.out] <;> rfl, hE0.trans hE⟩
 ·have he : l ≠ m := fun h => hnm (by rw [HN.out, HM.out, h])
  have hz : (n : Int) ≠ (n2 : Int) := by omega
  have HR := Lib.hid (decide_eq_false he)
  clear he
  go_wp2
  go_ret
  exact ⟨by rw [HR.out] <;> rfl, Ext.refl _⟩
theorem sameAll_true (v u : Value) (l : List RE) (w : World) (hv : SLQ w v l) (hu : SLQ w u l) : Calls Try.prog 48 #[v, u] w fun e w' => e = .returned (.bool true) ∧ Ext w w' := by
 refine (sameAll3_calls v u l l w hv hu).mono ?_
 rintro e w' ⟨rfl, h⟩
 exact ⟨by simp, h⟩
end Go.Proofs.Ytdmjgjcljbogiaa
/-
 A list of numbers as a vector (vec.Gather); the document's product with a list (Dot).
-/
namespace Go.Proofs.Ytdmjgjcljbogiaa
set_option maxRecDepth 100000
set_option maxHeartbeats 1000000
open Go.RowKit
set_option linter.unusedVariables false
set_option linter.unusedSimpArgs false
def gaN (xs : List Rat) (i : Nat) : List (Int × Rat) := (List.range i).map fun (j : Nat) => ((j : Int), xs.getD j 0)
theorem gaN_snoc {xs : List Rat} {i : Nat} {x : Rat} (h : xs[i]? = some x) : gaN xs (i + 1) = gaN xs i ++ [((i : Int), x)] := by
 unfold gaN
 rw [List.range_succ, List.map_append, List.map_singleton, List.getD_eq_getElem?_getD, h]
 rfl
def GaJ (w wr : World) (k i : Nat) (xs : List Rat) (lv : Value) (vs : List Value) : Prop := Ext w wr ∧ LS 106 4 w.heap.size wr lv vs ∧ vs.length = i ∧ ∃ ps : Ps, vs = (tsP ps).map tmv ∧ lP ps = gaN xs i ∧ ∀ p ∈ ps, IsR w (ratv p.1) p.2 k
theorem GaJ.tl {w wr : World} {k i : Nat} {xs : List Rat} {lv : Value} {vs : List Value} (h : GaJ w wr k i xs lv vs) : TL k wr lv (gaN xs i) := by
 obtain ⟨h1, h2, h3, ps, rfl, h5, h6⟩ := h
 rw [← h5]
 exact LS.tl h2 fun p hp => (h6 p hp).ext h1
theorem GaJ.app {w wr w7 : World} {k i : Nat} {xs : List Rat} {lv v' : Value} {vs : List Value} {x : Rat} {b : Bool} {a1 a2 : Option Addr} {n1 c1 n2 c2 : Nat} (h : GaJ w wr k i xs lv vs) (hE : Ext w w7) (hls : LS 106 4 w.heap.size w7 v' (vs ++ [.agg #[.int .i64 (i : Int), .bool b, .slice a1 n1 c1, .slice a2 n2 c2]])) (hx : xs[i]? = some x) (hR : IsR w (.agg #[.bool b, .slice a1 n1 c1, .slice a2 n2 c2]) x k) : GaJ w w7 k (i + 1) xs v' (vs ++ [.agg #[.int .i64 (i : Int), .bool b, .slice a1 n1 c1, .slice a2 n2 c2]]) := by
 obtain ⟨h1, h2, h3, ps, rfl, h5, h6⟩ := h
 refine ⟨hE, hls, by rw [List.length_append, h3]; rfl, ps ++ [(⟨i, b, a1, n1, c1, a2, n2, c2⟩, x)], ?_, ?_, fun p hp => ?_⟩
 ·rw [tsP_snoc, List.map_append]
  rfl
 ·rw [lP_snoc, h5, gaN_snoc hx]
 ·rcases List.mem_append.1 hp with hp | hp
  ·exact h6 p hp
  ·rw [List.mem_singleton] at hp
   subst hp
   exact hR
end Go.Proofs.Ytdmjgjcljbogiaa
/-
 A vector laid out into places (vec.Scatter; the document's Scatter).
-/
namespace Go.Proofs.Ytdmjgjcljbogiaa
set_option maxRecDepth 100000
set_option maxHeartbeats 1000000
open Go.RowKit
set_option linter.unusedVariables false
set_option linter.unusedSimpArgs false
theorem Up.take {l : List (Int × Rat)} (h : Up l) (i : Nat) : Up (l.take i) := ⟨h.1.sublist (List.take_sublist i l), fun x hx => h.2 x (List.mem_of_mem_take hx)⟩
theorem set3S (b c d : Value) (p : Nat) (l : List Value) (h : p + 3 ≤ l.length) : (((l.toArray.setIfInBounds p b).setIfInBounds (p + 1) c).setIfInBounds (p + 2) d).toList = laidS l p [b, c, d] := by
 rw [← set3 b c d p l h]
 simp
theorem hold_set3 {w : World} {g i : Nat} {vs : List Value} {b c d : Value} (hb : Bx 28 w g (flatS vs).toArray) (h5 : StrN 3 vs) (hi : i < vs.length) : Bx 28 (((w.setCell ⟨g, i * 3, none⟩ b).setCell ⟨g, i * 3 + 1, none⟩ c).setCell ⟨g, i * 3 + 2, none⟩ d) g (flatS (vs.set i (.agg #[b, c, d]))).toArray := by
 have h := ((hb.set (i * 3) b).set (i * 3 + 1) c).set (i * 3 + 2) d
 have hlen := flatS_len h5.size
 have h2 := set3S b c d (i * 3) (flatS vs) (by rw [hlen]; omega)
 have h3 := laidS_flat (rest := []) (v := .agg #[b, c, d]) h5.size hi rfl
 rw [List.append_nil, List.append_nil] at h3
 have h4 : (((flatS vs).toArray.setIfInBounds (i * 3) b).setIfInBounds (i * 3 + 1) c).setIfInBounds (i * 3 + 2) d = (flatS (vs.set i (.agg #[b, c, d]))).toArray := by
  apply Array.ext'
  rw [h2, List.toList_toArray, ← h3]
  rfl
 rw [h4] at h
 exact h
def FrK (B k : Nat) (w : World) (v : Value) (q : Rat) : Prop := FrQ B w v q ∧ szQ q ≤ k
theorem FrK.ext {B k : Nat} {w w' : World} {v : Value} {q : Rat} (h : FrK B k w v q) (he : Ext w w') : FrK B k w' v q := ⟨h.1.ext he, h.2⟩
def ScJ (w wr : World) (g K N : Nat) (q : Nat → Option Rat) : Prop := Ext w wr ∧ ∃ vs, Bx 28 wr g (flatS vs).toArray ∧ StrN 3 vs ∧ vs.length = N ∧ ∀ (j : Nat) (u : Value) (x : Rat), vs[j]? = some u → q j = some x → FrK w.heap.size K wr u x
theorem ScJ.set {w wr w' : World} {g K N i : Nat} {q q' : Nat → Option Rat} {b : Bool} {a1 a2 : Option Addr} {n1 c1 n2 c2 : Nat} {x : Rat} (h : ScJ w wr g K N q) (he : Ext wr w') (hg : w.heap.size ≤ g) (hi : i < N) (hx : FrK w.heap.size K w' (.agg #[.bool b, .slice a1 n1 c1, .slice a2 n2 c2]) x) (hq : ∀ j, q' j = if j = i then some x else q j) : ScJ w (((w'.setCell ⟨g, i * 3, none⟩ (.bool b)).setCell ⟨g, i * 3 + 1, none⟩ (.slice a1 n1 c1)).setCell ⟨g, i * 3 + 2, none⟩ (.slice a2 n2 c2)) g K N q' := by
 obtain ⟨h1, vs, h2, h3, h4, h5⟩ := h
 have hb := h2.ext he
 have hb' := hold_set3 (b := .bool b) (c := .slice a1 n1 c1) (d := .slice a2 n2 c2) hb h3 (by rw [h4]; exact hi)
 have hc : Chg g w' (((w'.setCell ⟨g, i * 3, none⟩ (.bool b)).setCell ⟨g, i * 3 + 1, none⟩ (.slice a1 n1 c1)).setCell ⟨g, i * 3 + 2, none⟩ (.slice a2 n2 c2)) := (Chg.trans (Chg.trans (Chg.setCell _ g _ _) (Chg.setCell _ g _ _)) (Chg.setCell _ g _ _))
 have hk : ∀ u y, FrK w.heap.size K w' u y → FrK w.heap.size K _ u y := fun u y hf => ⟨hf.1.chgN hc hb hb' (by decide) (by decide), hf.2⟩
 refine ⟨(h1.trans he).step hc hg, _, hb', h3.set (StrN.one rfl (all3 rfl rfl rfl)) i, by rw [List.length_set]; exact h4, fun j u y hu hy => ?_⟩
 rw [List.getElem?_set] at hu
 rw [hq j] at hy
 by_cases hj : i = j
 ·subst hj
  rw [if_pos rfl] at hu hy
  rw [if_pos (by rw [h4]; exact hi)] at hu
  cases hu
  cases hy
  exact hk _ _ hx
 ·rw [if_neg hj] at hu
  rw [if_neg (fun e => hj e.symm)] at hy
  have := h5 j u y hu hy
  exact hk _ _ ⟨this.1.ext he, this.2⟩
end Go.Proofs.Ytdmjgjcljbogiaa
/-
 A number's memory written over: just which blocks may be harmed.
-/
namespace Go.Proofs.Ytdmjgjcljbogiaa
set_option maxRecDepth 100000
set_option maxHeartbeats 1000000
open Go.RowKit
set_option linter.unusedVariables false
set_option linter.unusedSimpArgs false
def HurtP (Q : Nat → Prop) (w w' : World) : Prop := w'.os = w.os ∧ w'.tape = w.tape ∧ w'.output = w.output ∧ w.heap.size ≤ w'.heap.size ∧
 ∀ k, k < w.heap.size → w'.heap[k]? = w.heap[k]? ∨ (Q k ∧ ∃ cur cur', w.heap[k]? = some (.cells cur 88 (0, 0)) ∧ w'.heap[k]? = some (.cells cur' 88 (0, 0)) ∧ cur'.size = cur.size)
theorem HurtP.trans {Q : Nat → Prop} {a b c : World} (h : HurtP Q a b) (k : HurtP Q b c) : HurtP Q a c := by
 obtain ⟨h1, h2, h3, h4, h5⟩ := h
 obtain ⟨k1, k2, k3, k4, k5⟩ := k
 refine ⟨k1.trans h1, k2.trans h2, k3.trans h3, Nat.le_trans h4 k4, fun g hg => ?_⟩
 rcases h5 g hg with e1 | ⟨hb, cur, cur', c1, c2, c3⟩ <;> rcases k5 g (by omega) with e2 | ⟨hb2, dur, dur', d1, d2, d3⟩
 ·exact .inl (e2.trans e1)
 ·exact .inr ⟨hb2, dur, dur', e1 ▸ d1, d2, d3⟩
 ·exact .inr ⟨hb, cur, cur', c1, e2.trans c2, c3⟩
 ·refine .inr ⟨hb, cur, dur', c1, d2, ?_⟩
  rw [c2] at d1
  cases d1
  omega
theorem HurtP.setCell {Q : Nat → Prop} {g i : Nat} {w : World} {cur : Array Value} (h : w.heap[g]? = some (.cells cur 88 (0, 0))) (hB : Q g) (u : Value) : HurtP Q w (w.setCell ⟨g, i, none⟩ u) := by
 have hc := Chg.setCell w g i u
 refine ⟨World.grownBy.os hc, World.grownBy.tape hc, World.grownBy.output hc, hc.size, fun k hk => ?_⟩
 by_cases hkg : k = g
 ·subst hkg
  exact .inr ⟨hB, cur, _, h, heap_setCell_same w k i _ _ _ h, by simp⟩
 ·exact .inl (hc.heap hk hkg)
theorem HurtP.refl (Q : Nat → Prop) (w : World) : HurtP Q w w := ⟨rfl, rfl, rfl, Nat.le_refl _, fun k hk => .inl rfl⟩
end Go.Proofs.Ytdmjgjcljbogiaa
/-
 A vector laid out into places (vec.Scatter).
-/
namespace Go.Proofs.Ytdmjgjcljbogiaa
set_option maxRecDepth 100000
set_option maxHeartbeats 1000000
open Go.RowKit
set_option linter.unusedVariables false
set_option linter.unusedSimpArgs false
theorem TO.at {B k : Nat} {w : World} {v : Value} {m : List (Int × Rat)} (h : TO B k w v m) : ∃ ad cap, v = .slice ad m.length cap ∧ m.length ≤ 9223372036854775807 ∧ ∀ (i : Nat) (x : Int × Rat), m[i]? = some x → ∃ g, ad = some ⟨g, 0, none⟩ ∧ ∃ b a1 n1 c1 a2 n2 c2,
  (∀ wz, Ext w wz → wz.cell? ⟨g, i * 4, none⟩ = some (.int .i64 x.1) ∧ wz.cell? ⟨g, i * 4 + 1, none⟩ = some (.bool b) ∧ wz.cell? ⟨g, i * 4 + 2, none⟩ = some (.slice a1 n1 c1) ∧ wz.cell? ⟨g, i * 4 + 3, none⟩ = some (.slice a2 n2 c2)) ∧ FrQ B w (.agg #[.bool b, .slice a1 n1 c1, .slice a2 n2 c2]) x.2 ∧ szQ x.2 ≤ k := by
 obtain ⟨ts, h1, h2, h3⟩ := h
 obtain ⟨ad, cap, e1, e2, e3, -⟩ := h2.opn
 rw [List.length_map, h1] at e1 e2
 refine ⟨ad, cap, e1, by omega, fun i x hi => ?_⟩
 obtain ⟨t, ht⟩ : ∃ t, ts[i]? = some t := ⟨_, List.getElem?_eq_getElem (by have := (List.getElem?_eq_some_iff.1 hi).1; omega)⟩
 obtain ⟨k1, k2, k3⟩ := h3 i t x ht hi
 obtain ⟨g', cap2, j1, j2, cs, j3, j4, j5, j6⟩ := h2.at (by omega) (i := i) (u := tmv t) (by rw [List.getElem?_map, ht]; rfl)
 rw [e1] at j1
 simp only [Value.slice.injEq] at j1
 unfold tmv at j3
 cases j3
 refine ⟨g', j1.1, t.b, t.a1, t.n1, t.c1, t.a2, t.n2, t.c2, fun wz hz => ⟨?_, ?_, ?_, ?_⟩, k2, k3⟩
 ·rw [← k1]; exact (j6 wz hz 0 _ rfl).1
 ·exact (j6 wz hz 1 _ rfl).1
 ·exact (j6 wz hz 2 _ rfl).1
 ·exact (j6 wz hz 3 _ rfl).1
def scE : Bool → Int
 | true => 0
 | false => 2
end Go.Proofs.Ytdmjgjcljbogiaa
/-
 The document's Scatter; a list's numbers written over.
-/
namespace Go.Proofs.Ytdmjgjcljbogiaa
set_option maxRecDepth 100000
set_option maxHeartbeats 1000000
open Go.RowKit
set_option linter.unusedVariables false
set_option linter.unusedSimpArgs false
theorem FrK.grow {B k : Nat} {w w' : World} {v : Value} {q : Rat} {lv : Value} {vs : List Value} (h : FrK B k w v q) (hls : LS 28 3 B w lv vs) (hg : w.grownBy w' lv.ownBlock) : FrK B k w' v q := by
 rcases hls.2.2 with ⟨h1, h2⟩ | ⟨g', cap', cur, h1, h2, h3, h4⟩
 ·rw [h1] at hg
  exact h.ext hg
 ·rw [h1] at hg
  exact ⟨h.1.chgB hg h3 (by decide), h.2⟩
theorem OL.slq {B k : Nat} {w : World} {v : Value} {qs : List Rat} (h : OL 28 3 B (FrK B k) w v qs) (hk : k ≤ LIM) : SLQ w v (qs.map fmQ) := by
 obtain ⟨vs, h1, h2, h3⟩ := h
 refine OL.sl (t := 28) (B := B) ⟨vs, h1, by rw [List.length_map]; exact h2, fun i u y hu hy => ?_⟩ (by omega)
 rw [List.getElem?_map] at hy
 cases hq : qs[i]? with
 | none => rw [hq] at hy; cases hy
 | some q =>
  rw [hq] at hy
  simp only [Option.map_some, Option.some.injEq] at hy
  subst hy
  have := h3 i u q hu hq
  exact this.1.rawE (by have := this.2; omega)
theorem OL.ql {B k : Nat} {w : World} {v : Value} {qs : List Rat} (h : OL 28 3 B (FrK B k) w v qs) (hk : k ≤ LIM) : QL k w v qs := (OL.sl h (by omega)).map fun u y hu => hu.1.isR hu.2 hk
theorem SLQ.nil0 (w : World) (ad : Option Addr) (c : Nat) (hc : c ≤ 9223372036854775807) : SLQ w (.slice ad 0 c) [] := ⟨ad, c, rfl, by simp, hc, .inl rfl⟩
end Go.Proofs.Ytdmjgjcljbogiaa
/-
 Matrices: plain: products, columns. No program is named here.
-/
namespace Go.Proofs.Ytdmjgjcljbogiaa
set_option maxRecDepth 100000
set_option maxHeartbeats 1000000
set_option linter.unusedVariables false
set_option linter.unusedSimpArgs false
def sumN (f : Nat → Rat) : Nat → Rat
 | 0 => 0
 | n + 1 => sumN f n + f n
theorem sumN_congr {f g : Nat → Rat} : ∀ {n : Nat}, (∀ i, i < n → f i = g i) → sumN f n = sumN g n
 | 0, _ => rfl
 | n + 1, h => by
  unfold sumN
  rw [sumN_congr (n := n) fun i hi => h i (by omega), h n (by omega)]
theorem sumN_zero : ∀ n, sumN (fun _ => 0) n = 0
 | 0 => rfl
 | n + 1 => by unfold sumN; rw [sumN_zero n, Rat.add_zero]
theorem sumN_add (f g : Nat → Rat) : ∀ n, sumN (fun i => f i + g i) n = sumN f n + sumN g n
 | 0 => by simp [sumN, Rat.add_zero]
 | n + 1 => by
  unfold sumN
  rw [sumN_add f g n]
  grind
theorem sumN_mul (a : Rat) (f : Nat → Rat) : ∀ n, sumN (fun i => a * f i) n = a * sumN f n
 | 0 => by simp [sumN, Rat.mul_zero]
 | n + 1 => by
  unfold sumN
  rw [sumN_mul a f n]
  grind
theorem sumN_mul_r (a : Rat) (f : Nat → Rat) (n : Nat) : sumN (fun i => f i * a) n = sumN f n * a := by
 rw [sumN_congr (g := fun i => a * f i) (fun i _ => Rat.mul_comm _ _), sumN_mul, Rat.mul_comm]
theorem sumN_swap (f : Nat → Nat → Rat) (n : Nat) : ∀ m, sumN (fun i => sumN (fun j => f i j) n) m = sumN (fun j => sumN (fun i => f i j) m) n
 | 0 => by simp [sumN, sumN_zero]
 | m + 1 => by
  rw [show sumN (fun i => sumN (fun j => f i j) n) (m + 1) = sumN (fun i => sumN (fun j => f i j) n) m + sumN (fun j => f m j) n from rfl, sumN_swap f n m, ← sumN_add]
  exact sumN_congr fun i hi => rfl
theorem sumN_front (f : Nat → Rat) : ∀ n, sumN f (n + 1) = f 0 + sumN (fun i => f (i + 1)) n
 | 0 => by simp [sumN, Rat.zero_add, Rat.add_zero]
 | n + 1 => by
  rw [show sumN f (n + 1 + 1) = sumN f (n + 1) + f (n + 1) from rfl, sumN_front f n, show sumN (fun i => f (i + 1)) (n + 1) = sumN (fun i => f (i + 1)) n + f (n + 1) from rfl, Rat.add_assoc]
theorem dotS_sumN (f : Int → Rat) : ∀ (ys : List Rat) (c : Int), dotS f ys c = sumN (fun i => f (c + (i : Int)) * ys.getD i 0) ys.length
 | [], c => rfl
 | y :: ys, c => by
  rw [List.length_cons, sumN_front]
  unfold dotS
  rw [dotS_sumN f ys (c + 1)]
  simp only [Int.natCast_zero, Int.add_zero, List.getD_cons_zero, List.getD_cons_succ]
  congr 1
  exact sumN_congr fun i _ => by rw [show c + 1 + (i : Int) = c + ((i + 1 : Nat) : Int) from by omega]
theorem dotV_sumN (l : List (Int × Rat)) (ys : List Rat) : dotV l ys = sumN (fun i => getV l (i : Int) * ys.getD i 0) ys.length := by
 rw [dotV_sum, dotS_sumN]
 exact sumN_congr fun i _ => by rw [Int.zero_add]
def catN (ys : List Rat) (rows : List (List (Int × Rat))) (i : Nat) : List (Int × Rat) := (List.range i).flatMap fun j => scV (ys.getD j 0) (rows.getD j [])
theorem catN_zero (ys : List Rat) (rows : List (List (Int × Rat))) : catN ys rows 0 = [] := rfl
theorem catN_get (ys : List Rat) (rows : List (List (Int × Rat))) (c : Int) : ∀ i, getV (catN ys rows i) c = sumN (fun j => ys.getD j 0 * getV (rows.getD j []) c) i
 | 0 => by rw [catN_zero, getV_nil]; rfl
 | i + 1 => by
  have : catN ys rows (i + 1) = catN ys rows i ++ scV (ys.getD i 0) (rows.getD i []) := by
   unfold catN
   rw [List.range_succ, List.flatMap_append]
   simp
  rw [this, getV_append, catN_get ys rows c i, scV_get]
  rfl
theorem getD_all {α : Type} {p : α → Prop} {l : List α} {d : α} (h : ∀ x ∈ l, p x) (hd : p d) (i : Nat) : p (l.getD i d) := by
 rw [List.getD_eq_getElem?_getD]
 cases hi : l[i]? with
 | none => exact hd
 | some x => exact h x (List.mem_of_getElem? hi)
def catP (l : List (Int × Rat)) (b : List (List (Int × Rat))) : List (Int × Rat) := l.flatMap fun t => if t.1 < (b.length : Int) then scV t.2 (b.getD t.1.toNat []) else []
theorem catP_snoc (l : List (Int × Rat)) (c : Int) (q : Rat) (b : List (List (Int × Rat))) : catP (l ++ [(c, q)]) b = catP l b ++ (if c < (b.length : Int) then scV q (b.getD c.toNat []) else []) := by
 unfold catP
 rw [List.flatMap_append]
 simp
theorem catP_len {b : List (List (Int × Rat))} {N : Nat} (h : ∀ r ∈ b, r.length ≤ N) (l : List (Int × Rat)) : (catP l b).length ≤ l.length * N := by
 induction l with
 | nil => simp [catP]
 | cons t l ih =>
  have h2 : (b.getD t.1.toNat []).length ≤ N := getD_all (p := fun (r : List (Int × Rat)) => r.length ≤ N) h (by simp) _
  have h3 : (scV t.2 (b.getD t.1.toNat [])).length = (b.getD t.1.toNat []).length := by unfold scV; rw [List.length_map]
  unfold catP at ih ⊢
  rw [List.flatMap_cons, List.length_append, List.length_cons, Nat.succ_mul]
  split
  ·rw [h3]
   omega
  ·rw [List.length_nil]
   omega
theorem catP_get {l : List (Int × Rat)} (h0 : ∀ t ∈ l, 0 ≤ t.1) (b : List (List (Int × Rat))) (c : Int) : getV (catP l b) c = dotV l (b.map fun r => getV r c) := by
 induction l with
 | nil => exact getV_nil c
 | cons t l ih =>
  have ht := h0 t (List.mem_cons_self ..)
  have i := ih fun t ht => h0 t (List.mem_cons_of_mem _ ht)
  unfold catP at i ⊢
  rw [List.flatMap_cons, getV_append, i]
  show _ = (if 0 ≤ t.1 ∧ t.1 < ((b.map fun r => getV r c).length : Int) then t.2 * (b.map fun r => getV r c).getD t.1.toNat 0 else 0) + dotV l (b.map fun r => getV r c)
  congr 1
  rw [List.length_map]
  by_cases h : t.1 < (b.length : Int)
  ·rw [if_pos h, if_pos ⟨ht, h⟩, scV_get]
   congr 1
   have hlt : t.1.toNat < b.length := by omega
   rw [List.getD_eq_getElem?_getD, List.getD_eq_getElem?_getD, List.getElem?_map, List.getElem?_eq_getElem hlt]
   rfl
  ·rw [if_neg h, if_neg fun h2 => h h2.2]
   exact getV_nil c
def prV (r : List (Int × Rat)) (b : List (List (Int × Rat))) : List (Int × Rat) := mkV (catP (mkV r) b)
theorem prV_get (r : List (Int × Rat)) (b : List (List (Int × Rat))) (c : Int) : getV (prV r b) c = dotV r (b.map fun r => getV r c) := by
 unfold prV
 rw [mkV_get, catP_get fun t ht => (mkV_nf r).1.2 t ht, dotV_mk]
theorem prV_sum (r : List (Int × Rat)) (b : List (List (Int × Rat))) (c : Int) : getV (prV r b) c = sumN (fun j => getV r (j : Int) * getV (b.getD j []) c) b.length := by
 rw [prV_get, dotV_sumN, List.length_map]
 refine sumN_congr fun i hi => ?_
 congr 1
 rw [List.getD_eq_getElem?_getD, List.getD_eq_getElem?_getD, List.getElem?_map, List.getElem?_eq_getElem hi]
 rfl
theorem prV_nf (r : List (Int × Rat)) (b : List (List (Int × Rat))) : Nf (prV r b) := mkV_nf _
theorem prV_doc (r : List (Int × Rat)) (b : List (List (Int × Rat))) (ys : List Rat) (hy : ∀ j, j < b.length → ys[j]? = some (getV r (j : Int))) : mkV (catN ys b b.length) = prV r b := by
 refine (mkV_eq (prV_nf r b) fun c => ?_).symm
 rw [prV_sum, catN_get]
 exact sumN_congr fun j hj => by
  have : ys.getD j 0 = getV r (j : Int) := by rw [List.getD_eq_getElem?_getD, hy j hj]; rfl
  rw [this]
theorem dot_cat (ys : List Rat) (rows : List (List (Int × Rat))) (xs : List Rat) (n : Nat) : dotV (mkV (catN ys rows n)) xs = sumN (fun j => ys.getD j 0 * dotV (rows.getD j []) xs) n := by
 rw [dotV_sumN, sumN_congr (g := fun i => sumN (fun j => ys.getD j 0 * getV (rows.getD j []) (i : Int) * xs.getD i 0) n) (fun i _ => by rw [mkV_get, catN_get, ← sumN_mul_r]), sumN_swap]
 refine sumN_congr fun j _ => ?_
 rw [dotV_sumN, ← sumN_mul]
 exact sumN_congr fun i _ => by rw [Rat.mul_assoc]
theorem dot_pr (r : List (Int × Rat)) (b : List (List (Int × Rat))) (xs : List Rat) : dotV (prV r b) xs = dotV r (b.map fun s => dotV s xs) := by
 have e : prV r b = mkV (catN ((List.range b.length).map fun j => getV r ((j : Nat) : Int)) b b.length) := (prV_doc r b _ fun j hj => by simp [hj]).symm
 rw [e, dot_cat, dotV_sumN, List.length_map]
 refine sumN_congr fun j hj => ?_
 rw [List.getD_eq_getElem?_getD, List.getD_eq_getElem?_getD, List.getD_eq_getElem?_getD, List.getElem?_map, List.getElem?_map, List.getElem?_range hj, List.getElem?_eq_getElem hj]
 rfl
end Go.Proofs.Ytdmjgjcljbogiaa
/-
 Matrices in memory: lists of lists of terms, as they are read, as they are handed in, as they are made.
-/
namespace Go.Proofs.Ytdmjgjcljbogiaa
set_option maxRecDepth 100000
set_option maxHeartbeats 1000000
open Go.RowKit
set_option linter.unusedVariables false
set_option linter.unusedSimpArgs false
theorem TL.val {k : Nat} {w : World} {v : Value} {l : List (Int × Rat)} (h : TL k w v l) : ∃ ad n cap, v = .slice ad n cap := by
 obtain ⟨ad, m, cap, h1, h2, -⟩ := h.at
 exact ⟨ad, m, cap, h2⟩
theorem TLE.val {w : World} {v : Value} {l : List TE} (h : TLE w v l) : ∃ ad n cap, v = .slice ad n cap := by
 obtain ⟨ad, m, cap, h1, h2, -⟩ := h.at
 exact ⟨ad, m, cap, h2⟩
theorem TO.val {B k : Nat} {w : World} {v : Value} {l : List (Int × Rat)} (h : TO B k w v l) : ∃ ad cap, v = .slice ad l.length cap := by
 obtain ⟨ts, h1, h2, -⟩ := h
 obtain ⟨ad, cap, e, -⟩ := h2.opn
 rw [List.length_map, h1] at e
 exact ⟨ad, cap, e⟩
theorem TL.le {k k' : Nat} {w : World} {v : Value} {l : List (Int × Rat)} (h : TL k w v l) (hk : k ≤ k') : TL k' w v l :=
 SL.map h fun u y ⟨b, a1, n1, c1, a2, n2, c2, e, hR⟩ => ⟨b, a1, n1, c1, a2, n2, c2, e, hR.mono hk⟩
theorem TO.to {B k k' : Nat} {w : World} {v : Value} {m : List (Int × Rat)} (h : TO B k w v m) (hk : ∀ x ∈ m, szQ x.2 ≤ k') : TO B k' w v m := by
 obtain ⟨ts, h1, h2, h3⟩ := h
 exact ⟨ts, h1, h2, fun i t x ht hx => ⟨(h3 i t x ht hx).1, (h3 i t x ht hx).2.1, hk x (List.mem_of_getElem? hx)⟩⟩
theorem TO.szs {B k : Nat} {w : World} {v : Value} {m : List (Int × Rat)} (h : TO B k w v m) : ∀ x ∈ m, szQ x.2 ≤ k := by
 obtain ⟨ts, h1, h2, h3⟩ := h
 intro x hx
 obtain ⟨i, hi, rfl⟩ := List.getElem_of_mem hx
 exact (h3 i _ _ (List.getElem?_eq_getElem (by omega)) (List.getElem?_eq_getElem hi)).2.2
def ML (k : Nat) (w : World) (u : Value) (rows : List (List (Int × Rat))) : Prop := SV (TL k) w u rows
theorem ML.ext {k : Nat} {w w' : World} {u : Value} {rows : List (List (Int × Rat))} (h : ML k w u rows) (he : Ext w w') : ML k w' u rows := SV.ext (fun _ _ h => TL.ext h he) h he
theorem SV.map {α : Type} {R R' : World → Value → α → Prop} {w : World} {v : Value} {ys : List α} (h : SV R w v ys) (hR : ∀ u y, R w u y → R' w u y) : SV R' w v ys := by
 obtain ⟨ad, cap, h1, h2, h3, h4⟩ := h
 refine ⟨ad, cap, h1, h2, h3, ?_⟩
 rcases h4 with h4 | ⟨g, off, h4, h5⟩
 ·exact .inl h4
 ·refine .inr ⟨g, off, h4, fun i x hx => ?_⟩
  obtain ⟨v, k1, k2⟩ := h5 i x hx
  exact ⟨v, k1, hR _ _ k2⟩
theorem SV.mapL {α β : Type} {R : World → Value → α → Prop} {R' : World → Value → β → Prop} {f : α → β} {w : World} {v : Value} {ys : List α} (h : SV R w v ys) (hR : ∀ u y, y ∈ ys → R w u y → R' w u (f y)) : SV R' w v (ys.map f) := by
 obtain ⟨ad, cap, h1, h2, h3, h4⟩ := h
 refine ⟨ad, cap, by rw [List.length_map]; exact h1, by rw [List.length_map]; exact h2, h3, ?_⟩
 rcases h4 with h4 | ⟨g, off, h4, h5⟩
 ·exact .inl (by rw [h4]; rfl)
 ·refine .inr ⟨g, off, h4, fun i x hx => ?_⟩
  rw [List.getElem?_map] at hx
  cases hy : ys[i]? with
  | none => rw [hy] at hx; cases hx
  | some y =>
   rw [hy] at hx
   simp only [Option.map_some, Option.some.injEq] at hx
   subst hx
   obtain ⟨v, k1, k2⟩ := h5 i y hy
   exact ⟨v, k1, hR _ _ (List.mem_of_getElem? hy) k2⟩
theorem ML.le {k k' : Nat} {w : World} {v : Value} {rows : List (List (Int × Rat))} (h : ML k w v rows) (hk : k ≤ k') : ML k' w v rows := SV.map h fun u y hy => hy.le hk
theorem ML.at {k : Nat} {w : World} {u : Value} {rows : List (List (Int × Rat))} (h : ML k w u rows) : ∃ ad m cap, m = rows.length ∧ u = .slice ad m cap ∧ m ≤ 9223372036854775807 ∧ ∀ (i : Nat) (r : List (Int × Rat)), rows[i]? = some r → ∃ g off, ad = some ⟨g, off, none⟩ ∧ ∃ a1 n1 c1,
  (∀ wz, Ext w wz → wz.cell? ⟨g, off + i, none⟩ = some (.slice a1 n1 c1)) ∧ TL k w (.slice a1 n1 c1) r := by
 obtain ⟨ad, m, cap, h1, h2, h3, h4⟩ := h.opn
 refine ⟨ad, m, cap, h1, h2, h3, fun i r hr => ?_⟩
 obtain ⟨g, off, k1, v, k2, k3⟩ := h4 i r hr
 obtain ⟨a1, n1, c1, rfl⟩ := k3.val
 exact ⟨g, off, k1, a1, n1, c1, k2, k3⟩
theorem ML.szs {k : Nat} {w : World} {u : Value} {rows : List (List (Int × Rat))} (h : ML k w u rows) : ∀ r ∈ rows, ∀ x ∈ r, szQ x.2 ≤ k := by
 intro r hr
 obtain ⟨i, hi, rfl⟩ := List.getElem_of_mem hr
 obtain ⟨ad, m, cap, -, -, -, h4⟩ := h.at
 obtain ⟨g, off, -, a1, n1, c1, -, k3⟩ := h4 i _ (List.getElem?_eq_getElem hi)
 exact k3.szs
def MLE (w : World) (u : Value) (ms : List (List TE)) : Prop := SV TLE w u ms
theorem MLE.ext {w w' : World} {u : Value} {ms : List (List TE)} (h : MLE w u ms) (he : Ext w w') : MLE w' u ms := SV.ext (fun _ _ h => TLE.ext h he) h he
theorem MLE.at {w : World} {u : Value} {ms : List (List TE)} (h : MLE w u ms) : ∃ ad m cap, m = ms.length ∧ u = .slice ad m cap ∧ m ≤ 9223372036854775807 ∧ ∀ (i : Nat) (r : List TE), ms[i]? = some r → ∃ g off, ad = some ⟨g, off, none⟩ ∧ ∃ a1 n1 c1,
  (∀ wz, Ext w wz → wz.cell? ⟨g, off + i, none⟩ = some (.slice a1 n1 c1)) ∧ TLE w (.slice a1 n1 c1) r := by
 obtain ⟨ad, m, cap, h1, h2, h3, h4⟩ := h.opn
 refine ⟨ad, m, cap, h1, h2, h3, fun i r hr => ?_⟩
 obtain ⟨g, off, k1, v, k2, k3⟩ := h4 i r hr
 obtain ⟨a1, n1, c1, rfl⟩ := k3.val
 exact ⟨g, off, k1, a1, n1, c1, k2, k3⟩
def ratT (l : List TE) : List (Int × Rat) := l.map fun e => (e.1, ratE e.2)
theorem MLE.ml {w : World} {u : Value} {ms : List (List TE)} (h : MLE w u ms) (k : Nat) (hk : 1 ≤ k) (hk2 : k ≤ LIM) (hl : ∀ l ∈ ms, ∀ e ∈ l, e.2.2.1.length + e.2.2.2.length ≤ k) : ML k w u (ms.map ratT) :=
 SV.mapL h fun u y hy hR => hR.tl k hk hk2 (hl y hy)
theorem MLE.none (w : World) (c : Nat) (ad : Option Addr) (hc : c ≤ 9223372036854775807) : MLE w (.slice ad 0 c) [] := ⟨ad, c, rfl, Nat.zero_le _, hc, .inl rfl⟩
def OV {α : Type} (t : TypeId) (B : Nat) (R : World → Value → α → Prop) (w : World) (v : Value) (ys : List α) : Prop := ∃ vs, w.ownsRow B t 1 v vs.length vs ∧ vs.length = ys.length ∧ ∀ (i : Nat) (u : Value) (y : α), vs[i]? = some u → ys[i]? = some y → R w u y
theorem OV.nil {α : Type} (t : TypeId) (B : Nat) (R : World → Value → α → Prop) (w : World) : OV t B R w (.slice none 0 0) [] := ⟨[], ⟨rfl, .inl ⟨rfl, rfl⟩⟩, rfl, fun i u y h => by simp at h⟩
theorem OV.ext {α : Type} {t : TypeId} {B : Nat} {R : World → Value → α → Prop} {w w' : World} {v : Value} {ys : List α} (h : OV t B R w v ys) (he : Ext w w') (hR : ∀ u y, R w u y → R w' u y) : OV t B R w' v ys := by
 obtain ⟨vs, h1, h2, h3⟩ := h
 exact ⟨vs, ownsRow_extI h1 he, h2, fun i u y a b => hR u y (h3 i u y a b)⟩
theorem ownsRow_monoI {B B' e size n : Nat} {w : World} {v : Value} {xs : List Value} (h : w.ownsRow B e size v n xs) (hB : B' ≤ B) : w.ownsRow B' e size v n xs := by
 refine ⟨h.1, ?_⟩
 rcases h.2 with h2 | ⟨g, cap, cur, h1, h2, h3⟩
 ·exact .inl h2
 ·exact .inr ⟨g, cap, cur, h1, Nat.le_trans hB h2, h3⟩
theorem OV.mono {α : Type} {t : TypeId} {B B' : Nat} {R R' : World → Value → α → Prop} {w : World} {v : Value} {ys : List α} (h : OV t B R w v ys) (hB : B' ≤ B) (hR : ∀ u y, y ∈ ys → R w u y → R' w u y) : OV t B' R' w v ys := by
 obtain ⟨vs, h1, h2, h3⟩ := h
 exact ⟨vs, ownsRow_monoI h1 hB, h2, fun i u y a b => hR u y (List.mem_of_getElem? b) (h3 i u y a b)⟩
theorem ownsRow_ge {B e size n : Nat} {w : World} {v : Value} {xs : List Value} (h : w.ownsRow B e size v n xs) : ∀ g, v.ownBlock = some g → B ≤ g := by
 intro g hg
 rcases h.2 with ⟨h1, h2⟩ | ⟨g', cap, cur, h1, h2, h3, h4⟩
 ·rw [h1] at hg; cases hg
 ·rw [h1] at hg
  simp only [Value.ownBlock, Option.some.injEq] at hg
  subst hg
  exact h2
theorem OV.app {α : Type} {t : TypeId} {B n : Nat} {R : World → Value → α → Prop} {w w' : World} {v' : Value} {vs : List Value} {ys : List α} {u : Value} {y : α} (h2 : vs.length = ys.length) (h3 : ∀ (i : Nat) (u : Value) (y : α), vs[i]? = some u → ys[i]? = some y → R w u y) (hn : n = vs.length) (hLS : w'.ownsRow B t 1 v' (n + 1) (vs ++ [u])) (hR : ∀ u y, R w u y → R w' u y) (hu : R w' u y) : OV t B R w' v' (ys ++ [y]) := by
 subst hn
 refine ⟨vs ++ [u], by rw [List.length_append]; exact hLS, by rw [List.length_append, List.length_append, h2]; rfl, fun i a b ha hb => ?_⟩
 rcases Nat.lt_or_ge i vs.length with hi | hi
 ·rw [List.getElem?_append_left hi] at ha
  rw [List.getElem?_append_left (by omega)] at hb
  exact hR _ _ (h3 i a b ha hb)
 ·rw [List.getElem?_append_right hi] at ha
  rw [List.getElem?_append_right (by omega)] at hb
  rw [← h2] at hb
  have hz : i - vs.length = 0 := by
   rcases Nat.eq_zero_or_pos (i - vs.length) with hz | hz
   ·exact hz
   ·rw [List.getElem?_eq_none (by simp; omega)] at ha
    cases ha
  rw [hz] at ha hb
  simp only [List.getElem?_cons_zero, Option.some.injEq] at ha hb
  subst ha hb
  exact hu
theorem OV.opn {α : Type} {t : TypeId} {B : Nat} {R : World → Value → α → Prop} {w : World} {v : Value} {ys : List α} (h : OV t B R w v ys) : ∃ ad cap, v = .slice ad ys.length cap ∧ ys.length ≤ cap ∧ cap ≤ 9223372036854775807 ∧ ∀ (i : Nat) (y : α), ys[i]? = some y → ∃ g, ad = some ⟨g, 0, none⟩ ∧ B ≤ g ∧ ∃ u, (∀ wz, Ext w wz → wz.cell? ⟨g, i, none⟩ = some u) ∧ R w u y := by
 obtain ⟨vs, h0, hl, hR⟩ := h
 rcases h0.2 with ⟨h1, h2⟩ | ⟨g, cap, cur, h1, h2, h3, h4, h5, h6, h7⟩
 ·refine ⟨none, 0, by rw [h1, ← hl, h2], by omega, by omega, fun i x hi => ?_⟩
  have := (List.getElem?_eq_some_iff.1 hi).1
  omega
 ·refine ⟨_, cap, by rw [h1, hl], by omega, by unfold maxLen at h5; omega, fun i y hi => ?_⟩
  have hlt := (List.getElem?_eq_some_iff.1 hi).1
  refine ⟨g, rfl, h2, vs[i], fun wz hz => ?_, hR i _ y (List.getElem?_eq_getElem (by omega)) hi⟩
  have hb : Bx t wz g cur := hz.blk h3
  rw [hb.cell i]
  have h8 := congrArg (fun l => l[i]?) h7
  simp only [Nat.mul_one] at h8
  rw [List.getElem?_take, if_pos (by omega), Array.getElem?_toList] at h8
  rw [h8]
  exact List.getElem?_eq_getElem (by omega)
theorem OV.sv {α : Type} {t : TypeId} {B : Nat} {R : World → Value → α → Prop} {w : World} {v : Value} {ys : List α} (h : OV t B R w v ys) : SV R w v ys := by
 obtain ⟨ad, cap, h1, h2, h3, h4⟩ := h.opn
 refine ⟨ad, cap, h1, h2, h3, ?_⟩
 match ys, h4 with
 | [], _ => exact .inl rfl
 | y :: ys, h4 =>
  obtain ⟨g, rfl, -⟩ := h4 0 y rfl
  refine .inr ⟨g, 0, rfl, fun i x hx => ?_⟩
  obtain ⟨g', e, -, u, k1, k2⟩ := h4 i x hx
  cases e
  exact ⟨u, by rw [Nat.zero_add]; exact k1 w (Ext.refl w), k2⟩
theorem ownsRow_grow {α : Type} {B e n : Nat} {w w' : World} {v : Value} {xs : List Value} (h : w.ownsRow B e 1 v n xs) (hg : w.grownBy w' v.ownBlock) : Ext w w' ∨ ∃ g cs, Bx e w g cs ∧ Chg g w w' := by
 rcases h.2 with ⟨h1, h2⟩ | ⟨g, cap, cur, h1, h2, h3, h4⟩
 ·rw [h1] at hg
  exact .inl hg
 ·rw [h1] at hg
  exact .inr ⟨g, cur, h3, hg⟩
theorem TO.chgB {B k g : Nat} {w w' : World} {v : Value} {m : List (Int × Rat)} {t : TypeId} {cs : Array Value} (h : TO B k w v m) (hc : Chg g w w') (hb : Bx t w g cs) (ht : t ≠ 88) (ht2 : t ≠ 106) : TO B k w' v m := by
 obtain ⟨ts, h1, h2, h3⟩ := h
 exact ⟨ts, h1, h2.chgT hc hb ht2, fun i t x a b => ⟨(h3 i t x a b).1, (h3 i t x a b).2.1.chgB hc hb ht, (h3 i t x a b).2.2⟩⟩
theorem TO.grow {B k n e B' : Nat} {w w' : World} {v lv : Value} {m : List (Int × Rat)} {vs : List Value} (h : TO B k w v m) (hls : w.ownsRow B' e 1 lv n vs) (hg : w.grownBy w' lv.ownBlock) (ht : e ≠ 88) (ht2 : e ≠ 106) : TO B k w' v m := by
 rcases ownsRow_grow (α := Unit) hls hg with he | ⟨g, cs, hb, hc⟩
 ·exact h.ext he
 ·exact h.chgB hc hb ht ht2
def MO (B k : Nat) (w : World) (v : Value) (rows : List (List (Int × Rat))) : Prop := OV 107 B (TO B k) w v rows
theorem MO.ext {B k : Nat} {w w' : World} {v : Value} {rows : List (List (Int × Rat))} (h : MO B k w v rows) (he : Ext w w') : MO B k w' v rows := OV.ext h he fun _ _ h => h.ext he
theorem MO.mono {B B' k k' : Nat} {w : World} {v : Value} {rows : List (List (Int × Rat))} (h : MO B k w v rows) (hB : B' ≤ B) (hk : k ≤ k') : MO B' k' w v rows := OV.mono h hB fun _ _ _ h => (h.mono hB).le hk
theorem MO.ml {B k : Nat} {w : World} {v : Value} {rows : List (List (Int × Rat))} (h : MO B k w v rows) (hk : k ≤ LIM) : ML k w v rows := SV.map (OV.sv h) fun _ _ h => h.tl hk
theorem MO.mle {B k : Nat} {w : World} {v : Value} {rows : List (List (Int × Rat))} (h : MO B k w v rows) (hk : k ≤ LIM) : MLE w v (rows.map fmV) := SV.mapL (OV.sv h) fun _ _ _ h => h.tle hk
theorem MO.nil (B k : Nat) (w : World) : MO B k w (.slice none 0 0) [] := OV.nil _ _ _ _
theorem MO.szs {B k : Nat} {w : World} {v : Value} {rows : List (List (Int × Rat))} (h : MO B k w v rows) : ∀ r ∈ rows, ∀ x ∈ r, szQ x.2 ≤ k := by
 intro r hr
 obtain ⟨vs, h0, hl, hR⟩ := h
 obtain ⟨i, hi, rfl⟩ := List.getElem_of_mem hr
 exact (hR i _ _ (List.getElem?_eq_getElem (by omega)) (List.getElem?_eq_getElem hi)).szs
theorem OV.empty {α : Type} (t : TypeId) (B : Nat) (R : World → Value → α → Prop) (w : World) (hB : B ≤ w.heap.size) : OV t B R (w.alloc (.cells #[] t)) (.slice (some ⟨w.heap.size, 0, none⟩) 0 0) [] :=
 ⟨[], ⟨rfl, .inr ⟨w.heap.size, 0, #[], rfl, hB, Bx.new w _ #[], Nat.le_refl _, by unfold maxLen; omega, rfl, rfl⟩⟩, rfl, fun i u y h => by simp at h⟩
end Go.Proofs.Ytdmjgjcljbogiaa
/-
 Matrices: a matrix times a list, a list times a matrix (mat.Times, mat.TimesT).
-/
namespace Go.Proofs.Ytdmjgjcljbogiaa
set_option maxRecDepth 100000
set_option maxHeartbeats 1000000
open Go.RowKit
set_option linter.unusedVariables false
set_option linter.unusedSimpArgs false
theorem Up.mem_get {l : List (Int × Rat)} (h : Up l) : ∀ x ∈ l, getV l x.1 = x.2 := by
 induction l with
 | nil => intro x hx; cases hx
 | cons y l ih =>
  intro x hx
  rw [h.getV_cons]
  rcases List.mem_cons.1 hx with rfl | hx
  ·rw [if_pos rfl]
  ·rw [if_neg (by have := h.tail.2.2 x hx; omega)]
   exact ih h.tail.1 x hx
theorem sz_mk {k : Nat} {l : List (Int × Rat)} (h : ∀ x ∈ l, szQ x.2 ≤ k) : ∀ x ∈ mkV l, szQ x.2 ≤ l.length * (k + 1) + 1 := by
 intro x hx
 rw [← (mkV_nf l).1.mem_get x hx, mkV_get]
 exact sz_get h _
theorem sz_le {k A B : Nat} {l : List (Int × Rat)} (h : ∀ x ∈ l, szQ x.2 ≤ k) (hl : l.length ≤ A) (hB : A * (k + 1) + 1 ≤ B) : ∀ x ∈ mkV l, szQ x.2 ≤ B := fun x hx => by
 have h1 := sz_mk h x hx
 have h2 : l.length * (k + 1) ≤ A * (k + 1) := Nat.mul_le_mul_right _ hl
 omega
theorem scV_szs {ka k : Nat} {a : Rat} {l : List (Int × Rat)} (ha : szQ a ≤ ka) (hl : ∀ x ∈ l, szQ x.2 ≤ k) : ∀ x ∈ scV a l, szQ x.2 ≤ ka + k := by
 intro x hx
 unfold scV at hx
 obtain ⟨y, hy, rfl⟩ := List.mem_map.1 hx
 exact szQ_mul ha (hl y hy)
theorem catP_szs {kl k : Nat} {l : List (Int × Rat)} {b : List (List (Int × Rat))} (hl : ∀ t ∈ l, szQ t.2 ≤ kl) (hr : ∀ r ∈ b, ∀ x ∈ r, szQ x.2 ≤ k) : ∀ x ∈ catP l b, szQ x.2 ≤ kl + k := by
 intro x hx
 unfold catP at hx
 obtain ⟨t, ht, hx⟩ := List.mem_flatMap.1 hx
 split at hx
 ·exact scV_szs (hl t ht) (getD_all (p := fun (r : List (Int × Rat)) => ∀ x ∈ r, szQ x.2 ≤ k) hr (fun x hx => by cases hx) _) x hx
 ·cases hx
theorem TO.nil0 (B k : Nat) (w : World) : TO B k w (.slice Option.none 0 0) [] := ⟨[], rfl, LS.nil _ _ _ _, fun i t x h => by simp at h⟩
theorem mk_more (l r : List (Int × Rat)) : mkV (mkV l ++ r) = mkV (l ++ r) := mkV_congr fun c => by rw [getV_append, getV_append, mkV_get]
def timesM (rows : List (List (Int × Rat))) (xs : List Rat) : List Rat := rows.map fun r => dotV r xs
set_option maxHeartbeats 4000000 in
theorem times_calls (k kx N : Nat) (v u : Value) (rows : List (List (Int × Rat))) (xs : List Rat) (w : World) (hv : ML k w v rows) (hx : QL kx w u xs) (hN : ∀ r ∈ rows, r.length ≤ N) (hn : rows.length ≤ 1000000) (hk : (N + 1) * (k + kx + 1) ≤ 34359738000) :
  Calls Try.prog 55 #[v, u] w fun e w' => ∃ v', e = .returned v' ∧ OL 28 3 w.heap.size (FrK w.heap.size (N * (k + kx + 1) + 1)) w' v' (timesM rows xs) ∧ Ext w w' := by
 obtain ⟨ad, n, cap, hnl, rfl, hn1, hat⟩ := hv.at
 rw [← hnl] at hn
 obtain ⟨K, hK⟩ : ∃ K, K = N * (k + kx + 1) + 1 := ⟨_, rfl⟩
 rw [← hK]
 have HK := Lib.hid hK
 have HN := Lib.hid hnl
 have HAT := Lib.hid hat
 have HX := Lib.hid hx
 have HL := Lib.hid hN
 clear hnl hat hv hx hN hK
 go_enter Try.func55, Try.ntmps55
 go_wp2_with fail
 go_loopw [4, 9] (fun s4 s9 wr => ∃ (i : Nat) (ado : Option Addr) (capo : Nat), i ≤ n ∧ s9 = .int .i64 (i : Int) ∧ s4 = .slice ado i capo ∧ Hid (OL 28 3 w.heap.size (FrK w.heap.size K) wr (.slice ado i capo) (timesM (rows.take i) xs)) ∧ Ext w wr) (fun _ s9 _ => ((n : Int) - intOf s9).toNat)
 case atStart => exact ⟨0, none, 0, Nat.zero_le _, rfl, rfl, Lib.hid (OL.nil _ _ _ _ _), Ext.refl _⟩
 case round =>
  obtain ⟨i, ado, capo, hi, rfl, rfl, hS, hE0⟩ := hrel
  rcases Nat.eq_or_lt_of_le hi with hin | hin
  ·subst hin
   have hlt : ¬ ((i : Int) < (i : Int)) := by omega
   have hT := hS.out
   rw [show rows.take i = rows by rw [HN.out, List.take_length]] at hT
   have HT := Lib.hid hT
   clear hT
   go_wp2
   go_ret
   exact ⟨_, rfl, HT.out, hE0⟩
  ·have hlt : (i : Int) < (n : Int) := by omega
   obtain ⟨r, hr⟩ : ∃ x, rows[i]? = some x := ⟨_, List.getElem?_eq_getElem (by rw [← HN.out]; exact hin)⟩
   obtain ⟨g, off, rfl, a1, n1, c1, hcell, hTL⟩ := HAT.out i _ hr
   have hc0 := hcell wr hE0
   obtain ⟨vs, hls, hvl, hvs⟩ := hS.out
   have hvi : vs.length = i := by rw [hvl]; unfold timesM; rw [List.length_map, List.length_take, ← HN.out]; omega
   have htk := take_next hr
   have hrN := HL.out r (List.mem_of_getElem? hr)
   subst hvi
   have HTK := Lib.hid htk
   have HLS := Lib.hid hls
   have HV := Lib.hid (And.intro hvl hvs)
   have HR := Lib.hid (And.intro hTL hrN)
   have hwr := hE0.size
   have hm : (r.length + 1) * (k + kx + 1) ≤ (N + 1) * (k + kx + 1) := Nat.mul_le_mul_right _ (by omega)
   have hm2 : r.length * (k + kx + 1) ≤ N * (k + kx + 1) := Nat.mul_le_mul_right _ (by omega)
   have HM := Lib.hid (And.intro hm hm2)
   clear hcell hr hls hvl hvs htk hTL hrN hS hm hm2
   go_wp2_with fail
   refine (vdot_calls k kx _ _ r xs wr (HR.out.1.ext hE0) (HX.out.ext hE0) (Nat.le_trans HM.out.1 hk)).mono ?_
   rintro e w6 ⟨v6, rfl, r6, s6, e6⟩
   obtain ⟨b6, a6, l6, k6, a6', l6', k6', rfl, r6⟩ := r6.opn
   have HR6 := Lib.hid (show FrK w.heap.size K w6 _ (dotV r xs) from ⟨r6.mono hwr, by have := HM.out.2; have := HK.out; omega⟩)
   have hs6 := e6.size
   clear r6 s6 hc0
   go_wp2_with (first
    | (at_builtin; go_loud (refine wpList_append_LS rfl _ _ 61 rfl 28 3 56 w.heap.size Try.underlying61 (by kernel_rfl) (by kernel_rfl) (by omega) _ vs rfl (HLS.out.ext (e6.trans ((Ext.refl _).alloc _))) ⟨w6.heap.size, 0, none⟩ #[.bool b6, .slice a6 l6 k6, .slice a6' l6' k6'] rfl rfl (news_new _ _ _) (by kernel_rfl) (by omega) (by omega) (by rw [alloc_size]; omega) ?_); intro g' cap2' w7 hls7 hg7 hwh7 hlt7)
    | fail)
   go_roundw
   case rel =>
    have hA := (Ext.refl w6).alloc (.cells #[.bool b6, .slice a6 l6 k6, .slice a6' l6' k6'] 28)
    refine ⟨vs.length + 1, some ⟨g', 0, none⟩, cap2', by omega, by simp, rfl, Lib.hid ?_, ((hE0.trans e6).trans hA).stepG hg7 HLS.out.ge⟩
    have hLA := HLS.out.ext (e6.trans hA)
    have e : timesM (rows.take (vs.length + 1)) xs = timesM (rows.take vs.length) xs ++ [dotV r xs] := by rw [HTK.out]; unfold timesM; rw [List.map_append]; rfl
    rw [e]
    exact OL.app (w := w6.alloc (.cells #[.bool b6, .slice a6 l6 k6, .slice a6' l6' k6'] 28)) HV.out.1 (fun i u y h1 h2 => FrK.ext (HV.out.2 i u y h1 h2) (e6.trans hA)) hls7 (fun u y h => FrK.grow h hLA hg7) (FrK.grow (FrK.ext HR6.out hA) hLA hg7)
   case measure => simp [intOf]; omega
end Go.Proofs.Ytdmjgjcljbogiaa
/-
 The documents' matrices: are they great, copied, the same, written over.
-/
namespace Go.Proofs.Ytdmjgjcljbogiaa
set_option maxRecDepth 100000
set_option maxHeartbeats 1000000
open Go.RowKit
set_option linter.unusedVariables false
set_option linter.unusedSimpArgs false
def weightM : List (List TE) → Nat
 | [] => 0
 | l :: ms => weightE (l.map Prod.snd) + weightM ms
theorem weightM_snoc (ms : List (List TE)) (l : List TE) : weightM (ms ++ [l]) = weightM ms + weightE (l.map Prod.snd) := by
 induction ms with
 | nil => simp [weightM]
 | cons x ms ih => simp [weightM, ih, Nat.add_assoc]
def greatM (ms : List (List TE)) : Bool := ms.any greatV || (decide (12 < ms.length) || decide (18 < weightM ms))
theorem greatM_not {ms : List (List TE)} (h : greatM ms = false) : ms.length ≤ 12 ∧ ∀ l ∈ ms, l.length ≤ 30 ∧ ∀ e ∈ l, wordsE e.2 ≤ 6 := by
 unfold greatM at h
 simp only [Bool.or_eq_false_iff, List.any_eq_false, decide_eq_false_iff_not] at h
 refine ⟨by omega, fun l hl => ?_⟩
 have h1 : greatV l = false := by simpa using h.1 l hl
 obtain ⟨k1, k2⟩ := greatE_not h1
 rw [List.length_map] at k1
 exact ⟨k1, fun e he => k2 e.2 (List.mem_map_of_mem he)⟩
theorem greatM_row {ms : List (List TE)} {l : List TE} (hl : l ∈ ms) (h : greatV l = true) : greatM ms = true := by
 unfold greatM
 rw [List.any_eq_true.2 ⟨l, hl, h⟩]
 rfl
theorem greatM_rest {ms : List (List TE)} (h : ∀ l ∈ ms, greatV l = false) : greatM ms = (decide (12 < ms.length) || decide (18 < weightM ms)) := by
 have : ms.any greatV = false := List.any_eq_false.2 fun l hl => by rw [h l hl]; simp
 unfold greatM
 rw [this, Bool.false_or]
theorem weightE_le {l : List RE} (h : greatE l = false) : weightE l ≤ 18 := by
 unfold greatE at h
 simp only [Bool.or_eq_false_iff, decide_eq_false_iff_not] at h
 omega
set_option maxHeartbeats 4000000 in
theorem greatM_calls (v : Value) (ms : List (List TE)) (w : World) (hv : MLE w v ms) (hl : ms.length ≤ 281474976710656) :
  Calls Try.prog 53 #[v] w fun e w' => e = .returned (.bool (greatM ms)) ∧ Ext w w' := by
 obtain ⟨ad, n, cap, hnl, rfl, hn1, hat⟩ := hv.at
 rw [← hnl] at hl
 have HN := Lib.hid hnl
 have HAT := Lib.hid hat
 clear hnl hat hv
 go_enter Try.func53, Try.ntmps53
 go_wp2_with fail
 go_loopw [3, 4] (fun s3 s4 wr => ∃ (i s : Nat), i ≤ n ∧ s4 = .int .i64 (i : Int) ∧ s3 = .int .i64 (s : Int) ∧ Hid (s = weightM (ms.take i) ∧ ∀ l ∈ ms.take i, greatV l = false) ∧ s ≤ 18 * i ∧ Ext w wr) (fun _ s4 _ => ((n : Int) - intOf s4).toNat)
 case atStart => exact ⟨0, 0, Nat.zero_le _, rfl, rfl, Lib.hid ⟨rfl, fun l hl => by simp at hl⟩, Nat.zero_le _, Ext.refl _⟩
 case round =>
  obtain ⟨i, s, hi, rfl, rfl, hS, hs18, hE0⟩ := hrel
  rcases Nat.eq_or_lt_of_le hi with hin | hin
  ·subst hin
   have hlt : ¬ ((i : Int) < (i : Int)) := by omega
   have hG : greatM ms = (decide (12 < i) || decide (18 < s)) := by
    have h := hS.out
    rw [HN.out, List.take_length] at h
    rw [greatM_rest h.2, h.1, ← HN.out]
   have HG := Lib.hid hG
   clear hG
   by_cases h12 : 12 < i
   ·have h12' : (12 : Int) < (i : Int) := by omega
    have HR : Hid (greatM ms = true) := Lib.hid (by rw [HG.out, decide_eq_true h12]; rfl)
    go_wp2
    go_ret
    exact ⟨by rw [HR.out] <;> rfl, hE0⟩
   ·have h12' : ¬ (12 : Int) < (i : Int) := by omega
    by_cases h18 : 18 < s
    ·have h18' : (18 : Int) < (s : Int) := by omega
     have HR : Hid (greatM ms = true) := Lib.hid (by rw [HG.out, decide_eq_true h18, Bool.or_true])
     go_wp2
     go_ret
     exact ⟨by rw [HR.out] <;> rfl, hE0⟩
    ·have h18' : ¬ (18 : Int) < (s : Int) := by omega
     have hd18 : decide ((18 : Int) < (s : Int)) = false := decide_eq_false h18'
     have HR : Hid (greatM ms = false) := Lib.hid (by rw [HG.out, decide_eq_false h18, decide_eq_false h12]; rfl)
     go_wp2
     go_ret
     exact ⟨by rw [HR.out] <;> rfl, hE0⟩
  ·have hlt : (i : Int) < (n : Int) := by omega
   obtain ⟨l, hx⟩ : ∃ x, ms[i]? = some x := ⟨_, List.getElem?_eq_getElem (by rw [← HN.out]; exact hin)⟩
   obtain ⟨g, off, rfl, a1, n1, c1, hcell, hTL⟩ := HAT.out i _ hx
   have hc0 := hcell wr hE0
   have HTL := Lib.hid hTL
   have HCE := Lib.hid hcell
   have HX := Lib.hid (And.intro (List.mem_of_getElem? hx) (take_next hx))
   obtain ⟨i1, hi1⟩ : ∃ i1, i1 = i + 1 := ⟨_, rfl⟩
   have hi1' : (i : Int) + 1 = (i1 : Int) := by omega
   have hi1n : i1 ≤ n := by omega
   have HI1 := Lib.hid hi1
   clear hcell hx hTL hi1
   go_wp2_with fail
   refine (great_calls _ l wr (HTL.out.ext hE0)).mono ?_
   rintro e w2 ⟨rfl, e2⟩
   obtain ⟨p, hp⟩ : ∃ p, p = greatV l := ⟨_, rfl⟩
   rw [← hp]
   have HP := Lib.hid hp
   clear hp
   cases p with
   | true =>
    have HR : Hid (greatM ms = true) := Lib.hid (greatM_row HX.out.1 HP.out.symm)
    go_wp2
    go_ret
    exact ⟨by rw [HR.out] <;> rfl, hE0.trans e2⟩
   | false =>
    obtain ⟨g1, g2⟩ := greatE_not (l := l.map Prod.snd) HP.out.symm
    rw [List.length_map] at g1
    have g3 := weightE_le (l := l.map Prod.snd) HP.out.symm
    have G2 := Lib.hid g2
    have hc2 := HCE.out w2 (hE0.trans e2)
    clear g2 hc0
    go_wp2_with fail
    refine (weights_calls _ l w2 (HTL.out.ext (hE0.trans e2)) g1 (fun e he => G2.out e.2 (List.mem_map_of_mem he))).mono ?_
    rintro e w3 ⟨rfl, e3⟩
    obtain ⟨q, hq⟩ : ∃ q, q = weightE (l.map Prod.snd) := ⟨_, rfl⟩
    rw [← hq] at g3 ⊢
    have hst : s + q = weightM (ms.take i1) ∧ ∀ l ∈ ms.take i1, greatV l = false := by
     rw [HI1.out, HX.out.2]
     refine ⟨by rw [weightM_snoc, ← hS.out.1, hq], fun l' hl' => ?_⟩
     rcases List.mem_append.1 hl' with h | h
     ·exact hS.out.2 l' h
     ·rw [List.mem_singleton] at h
      rw [h]
      exact HP.out.symm
    have HST := Lib.hid hst
    have hsq : (s : Int) + (q : Int) = ((s + q : Nat) : Int) := by omega
    have hb18 : s + q ≤ 18 * i1 := by have := HI1.out; omega
    obtain ⟨t, ht⟩ : ∃ t, t = s + q := ⟨_, rfl⟩
    rw [← ht] at HST hsq hb18
    clear hst hq g3 hc2 ht
    go_wp2
    go_roundw
    case rel => exact ⟨i1, t, hi1n, rfl, rfl, HST, hb18, (hE0.trans e2).trans e3⟩
    case measure => have := HI1.out; simp [intOf]; omega
set_option maxHeartbeats 4000000 in
theorem sameM_calls (v u : Value) (l m : List (List TE)) (w : World) (hv : MLE w v l) (hu : MLE w u m) :
  Calls Try.prog 58 #[v, u] w fun e w' => e = .returned (.bool (decide (l = m))) ∧ Ext w w' := by
 obtain ⟨ad, n, cap, hn, rfl, hn1, hat⟩ := hv.at
 obtain ⟨ad2, n2, cap2, hm, rfl, hm1, hat2⟩ := hu.at
 have HN := Lib.hid hn
 have HM := Lib.hid hm
 have HAT := Lib.hid hat
 have HAT2 := Lib.hid hat2
 clear hn hm hat hat2 hv hu
 go_enter Try.func58, Try.ntmps58
 by_cases hnm : n = n2
 ·subst hnm
  have hz : ¬ ((n : Int) ≠ (n : Int)) := by simp
  go_wp2_with fail
  go_loopw [5] (fun s wr => ∃ i : Nat, i ≤ n ∧ s = .int .i64 (i : Int) ∧ Hid (l.take i = m.take i) ∧ Ext w wr) (fun s _ => ((n : Int) - intOf s).toNat)
  case atStart => exact ⟨0, Nat.zero_le _, rfl, Lib.hid rfl, Ext.refl _⟩
  case round =>
   obtain ⟨i, hi, rfl, hT, hE0⟩ := hrel
   rcases Nat.eq_or_lt_of_le hi with hin | hin
   ·subst hin
    have hlt : ¬ ((i : Int) < (i : Int)) := by omega
    have he : l = m := by have := hT.out; rwa [HN.out, List.take_length, ← HN.out, HM.out, List.take_length] at this
    have HR := Lib.hid (decide_eq_true he)
    clear he
    go_wp2
    go_ret
    exact ⟨by rw [HR.out] <;> rfl, hE0⟩
   ·have hlt : (i : Int) < (n : Int) := by omega
    obtain ⟨x, hx⟩ : ∃ x, l[i]? = some x := ⟨_, List.getElem?_eq_getElem (by rw [← HN.out]; exact hin)⟩
    obtain ⟨y, hy⟩ : ∃ x, m[i]? = some x := ⟨_, List.getElem?_eq_getElem (by rw [← HM.out]; exact hin)⟩
    obtain ⟨g, off, rfl, a1, n1, c1, hc, hTL⟩ := HAT.out i _ hx
    obtain ⟨g', off', rfl, a1', n1', c1', hc', hTL'⟩ := HAT2.out i _ hy
    have HC := Lib.hid hc
    have HC' := Lib.hid hc'
    have HR := Lib.hid hTL
    have HR' := Lib.hid hTL'
    have HXY := Lib.hid (And.intro hx hy)
    obtain ⟨s, hs⟩ : ∃ s : Bool, s = decide (x = y) := ⟨_, rfl⟩
    have HS := Lib.hid hs
    have hc0 := hc wr hE0
    have hc0' := hc' wr hE0
    clear hc hc' hx hy hs hTL hTL'
    go_wp2_with fail
    refine wp_region_puts [] [PP.val (.slice (some ⟨g, off, none⟩) n cap), PP.val (.int .i64 (i : Int)), PP.val (.pointer (some ⟨g, off + i, none⟩)), PP.val (.slice a1 n1 c1), PP.val (.slice (some ⟨g', off', none⟩) n cap2), PP.val (.int .i64 (i : Int)), PP.val (.pointer (some ⟨g', off' + i, none⟩)), PP.val (.slice a1' n1' c1'), PP.val (.bool s), PP.val (.bool (!s))] [] [0, 1, 2, 3, 4, 5, 6, 7, 8, 9]
     (by kernel_rfl) (by kernel_rfl) (fun f => (by simp only [fillR, fillL, List.setIfInBounds_toArray, List.set_cons_succ, List.set_cons_zero, Nat.reduceAdd]; rfl)) ?_ ?_ ?_ ?_ ?_
    ·intro x hx; cases hx
    ·intro x hx; cases hx
    ·intro x hx; cases hx
    ·refine ⟨?o0, ?o1, ?o2, ?o3, ?o4, ?o5, ?o6, ?o7, ?o8, ?o9, trivial⟩
     case o0 =>
      intro f w6 hG hp hl
      have hE : Ext wr w6 := hG
      have hS := hE.size
      simp only [OpGoal]
      go_simp
      exact ⟨_, rfl, Ext.refl _, rfl⟩
     case o1 =>
      intro f w6 hG hp hl
      have hE : Ext wr w6 := hG
      have hS := hE.size
      simp only [OpGoal]
      go_simp
      exact ⟨_, rfl, Ext.refl _, rfl⟩
     case o2 =>
      intro f w6 hG hp hl
      have hE : Ext wr w6 := hG
      have hS := hE.size
      have q17 : f 0 = .slice (some ⟨g, off, none⟩) n cap := tellV hp 0 0 rfl rfl (fun h => by cases h)
      have q18 : f 1 = .int .i64 (i : Int) := tellV hp 1 1 rfl rfl (fun h => by cases h)
      simp only [OpGoal]
      go_simp
      exact ⟨_, rfl, Ext.refl _, rfl⟩
     case o3 =>
      intro f w6 hG hp hl
      have hE : Ext wr w6 := hG
      have hS := hE.size
      have q19 : f 2 = .pointer (some ⟨g, off + i, none⟩) := tellV hp 0 2 rfl rfl (fun h => by cases h)
      have hcell := HC.out _ (hE0.trans hE)
      simp only [OpGoal]
      go_simp
      exact ⟨_, rfl, Ext.refl _, rfl⟩
     case o4 =>
      intro f w6 hG hp hl
      have hE : Ext wr w6 := hG
      have hS := hE.size
      simp only [OpGoal]
      go_simp
      exact ⟨_, rfl, Ext.refl _, rfl⟩
     case o5 =>
      intro f w6 hG hp hl
      have hE : Ext wr w6 := hG
      have hS := hE.size
      simp only [OpGoal]
      go_simp
      exact ⟨_, rfl, Ext.refl _, rfl⟩
     case o6 =>
      intro f w6 hG hp hl
      have hE : Ext wr w6 := hG
      have hS := hE.size
      have q21 : f 4 = .slice (some ⟨g', off', none⟩) n cap2 := tellV hp 0 4 rfl rfl (fun h => by cases h)
      have q22 : f 5 = .int .i64 (i : Int) := tellV hp 1 5 rfl rfl (fun h => by cases h)
      simp only [OpGoal]
      go_simp
      exact ⟨_, rfl, Ext.refl _, rfl⟩
     case o7 =>
      intro f w6 hG hp hl
      have hE : Ext wr w6 := hG
      have hS := hE.size
      have q23 : f 6 = .pointer (some ⟨g', off' + i, none⟩) := tellV hp 0 6 rfl rfl (fun h => by cases h)
      have hcell := HC'.out _ (hE0.trans hE)
      simp only [OpGoal]
      go_simp
      exact ⟨_, rfl, Ext.refl _, rfl⟩
     case o8 =>
      intro f w6 hG hp hl
      have hE : Ext wr w6 := hG
      have hS := hE.size
      have q20 : f 3 = .slice a1 n1 c1 := tellV hp 0 3 rfl rfl (fun h => by cases h)
      have q24 : f 7 = .slice a1' n1' c1' := tellV hp 1 7 rfl rfl (fun h => by cases h)
      change OpGoal _ _ _ f w6 Ext _
      refine og_call (P := Try.prog) _ _ _ #[f 3, f 7] Try.func95 (by kernel_rfl) (by kernel_rfl) rfl rfl (by kernel_rfl) ?_
      rw [q20, q24]
      refine (vsame_calls _ _ x y _ (HR.out.ext (hE0.trans hE)) (HR'.out.ext (hE0.trans hE))).mono ?_
      rintro e w' ⟨rfl, h2⟩
      exact ⟨_, rfl, h2, congrArg Value.bool HS.out.symm⟩
     case o9 =>
      intro f w6 hG hp hl
      have hE : Ext wr w6 := hG
      have hS := hE.size
      have q25 : f 8 = .bool s := tellV hp 0 8 rfl rfl (fun h => by cases h)
      simp only [OpGoal]
      go_simp
      exact ⟨_, rfl, Ext.refl _, rfl⟩
    ·intro f w6 hG hp
     have hE : Ext wr w6 := ChgS.nil hG
     have q26 : f 9 = .bool (!s) := endV hp 9 (by decide) rfl (fun h => by cases h)
     try simp only [q26]
     clear hp
     cases s with
     | true =>
      have ht : l.take (i + 1) = m.take (i + 1) := by
       have h2 := of_decide_eq_true HS.out.symm
       rw [List.take_add_one, List.take_add_one, HXY.out.1, HXY.out.2, hT.out, h2]
      have HT := Lib.hid ht
      clear ht
      go_wp2
      go_roundw
      case rel => exact ⟨i + 1, by omega, congrArg (Value.int .i64) (by omega), HT, hE0.trans hE⟩
      case measure => simp [intOf]; omega
     | false =>
      have he : l ≠ m := fun h => by
       have h1 := of_decide_eq_false HS.out.symm
       have h2 := HXY.out.1.symm.trans ((congrArg (fun z => z[i]?) h).trans HXY.out.2)
       simp only [Option.some.injEq] at h2
       exact h1 h2
      have HR := Lib.hid (decide_eq_false he)
      clear he
      go_wp2
      go_ret
      exact ⟨by rw [HR.out] <;> rfl, hE0.trans hE⟩
 ·have he : l ≠ m := fun h => hnm (by rw [HN.out, HM.out, h])
  have hz : (n : Int) ≠ (n2 : Int) := by omega
  have HR := Lib.hid (decide_eq_false he)
  clear he
  go_wp2
  go_ret
  exact ⟨by rw [HR.out] <;> rfl, Ext.refl _⟩
theorem sameM_true (v u : Value) (l : List (List TE)) (w : World) (hv : MLE w v l) (hu : MLE w u l) : Calls Try.prog 58 #[v, u] w fun e w' => e = .returned (.bool true) ∧ Ext w w' := by
 refine (sameM_calls v u l l w hv hu).mono ?_
 rintro e w' ⟨rfl, h⟩
 exact ⟨by simp, h⟩
theorem TLO.grow {B n e B' : Nat} {w w' : World} {v lv : Value} {m : List TE} {vs : List Value} (h : TLO B w v m) (hls : w.ownsRow B' e 1 lv n vs) (hg : w.grownBy w' lv.ownBlock) (ht : e ≠ 88) (ht2 : e ≠ 106) : TLO B w' v m := by
 rcases ownsRow_grow (α := Unit) hls hg with he | ⟨g, cs, hb, hc⟩
 ·exact h.ext he
 ·exact h.chgB hc hb ht ht2
theorem TLO.val {B : Nat} {w : World} {v : Value} {l : List TE} (h : TLO B w v l) : ∃ ad n cap, v = .slice ad n cap := h.tle.val
theorem TLO.mono {B B' : Nat} {w : World} {v : Value} {l : List TE} (h : TLO B w v l) (hB : B' ≤ B) : TLO B' w v l := by
 obtain ⟨⟨ts, h1, h2, h3⟩, hd⟩ := h
 exact ⟨⟨ts, h1, h2.mono hB, fun j t e a b => ⟨(h3 j t e a b).1, (h3 j t e a b).2.mono hB⟩⟩, hd⟩
def SpM (B0 : Nat) (w : World) (v : Value) : Prop := ∃ ad n cap, v = .slice ad n cap ∧ n ≤ 9223372036854775807 ∧ (n = 0 ∨ ∃ g, ad = some ⟨g, 0, none⟩ ∧ ∃ cs, Bx 107 w g cs ∧ n ≤ cs.size ∧ ∀ i, i < n → ∃ a1 n1 c1, cs[i]? = some (.slice a1 n1 c1) ∧ SpS B0 w (.slice a1 n1 c1))
theorem SpM.hurtV {B0 B1 : Nat} {w w' : World} {v : Value} (h : SpM B0 w v) (he : HurtV B1 w w') : SpM B0 w' v := by
 obtain ⟨ad, n, cap, h1, h2, h3⟩ := h
 refine ⟨ad, n, cap, h1, h2, h3.imp_right fun ⟨g, a, cs, b, c, d⟩ => ⟨g, a, cs, b.hurtV he (by decide) (by decide), c, fun i hi => ?_⟩⟩
 obtain ⟨a1, n1, c1, k1, k2⟩ := d i hi
 exact ⟨a1, n1, c1, k1, k2.hurtV he⟩
theorem SpM.ext {B0 : Nat} {w w' : World} {v : Value} (h : SpM B0 w v) (he : Ext w w') : SpM B0 w' v := h.hurtV (he.hurtsV 0)
theorem SpS.mono {B0 B1 : Nat} {w : World} {v : Value} (h : SpS B0 w v) (hB : B1 ≤ B0) : SpS B1 w v := by
 obtain ⟨ad, n, cap, h1, h2, h3⟩ := h
 refine ⟨ad, n, cap, h1, h2, h3.imp_right fun ⟨g, a, b, cs, c, d, e⟩ => ⟨g, a, Nat.le_trans hB b, cs, c, d, fun i hi => ?_⟩⟩
 obtain ⟨x1, x2, x3, x4, x5, x6, x7, y1, y2, y3, y4⟩ := e i hi
 exact ⟨x1, x2, x3, x4, x5, x6, x7, y1, y2, y3, y4.mono hB⟩
theorem MO.sp {B k : Nat} {w : World} {v : Value} {rows : List (List (Int × Rat))} (h : MO B k w v rows) : SpM B w v := by
 obtain ⟨vs, h0, hl, hR⟩ := h
 rcases h0.2 with ⟨h1, h2⟩ | ⟨g, cap, cur, h1, h2, h3, h4, h5, h6, h7⟩
 ·exact ⟨none, 0, 0, h1, by omega, .inl rfl⟩
 ·refine ⟨_, vs.length, cap, h1, by unfold maxLen at h5; omega, .inr ⟨g, rfl, cur, h3, by omega, fun i hi => ?_⟩⟩
  obtain ⟨r, hr⟩ : ∃ r, rows[i]? = some r := ⟨_, List.getElem?_eq_getElem (by omega)⟩
  have hT := hR i vs[i] r (List.getElem?_eq_getElem hi) hr
  obtain ⟨a1, c1, hv⟩ := hT.val
  have h8 := congrArg (fun l => l[i]?) h7
  simp only [Nat.mul_one] at h8
  rw [List.getElem?_take, if_pos (by omega), Array.getElem?_toList] at h8
  refine ⟨a1, r.length, c1, by rw [h8, List.getElem?_eq_getElem hi, hv], ?_⟩
  rw [← hv]
  exact hT.sp
end Go.Proofs.Ytdmjgjcljbogiaa
/-
 A region that draws its order: one operation changes one block (an append), a later one stores its value into another block; plain.
-/
namespace Go.Proofs.Ytdmjgjcljbogiaa
set_option maxRecDepth 100000
set_option maxHeartbeats 1000000
open Go.RowKit
set_option linter.unusedVariables false
set_option linter.unusedSimpArgs false
theorem grown_trans {row : Option Nat} {a b c : World} (h : a.grownBy b row) (k : b.grownBy c row) : a.grownBy c row := by
 cases row with
 | none => exact Ext.trans h k
 | some g => exact Chg.trans h k
theorem ext_grown {a b : World} (row : Option Nat) (h : Ext a b) : a.grownBy b row := by
 cases row with
 | none => exact h
 | some g => exact h.chg g
theorem grown_chgS {row : Option Nat} {a b : World} (g : Nat) (h : a.grownBy b row) : ChgS (row.toList ++ [g]) a b := by
 cases row with
 | none => exact Ext.chgS _ h
 | some g' => exact Chg.chgS (g := g') h (by simp)
theorem grown_ext {row : Option Nat} {g : Nat} {a b : World} (h : a.grownBy b row) (k : Chg g a b) (hne : ∀ r, row = some r → r ≠ g) : Ext a b := by
 cases row with
 | none => exact h
 | some r =>
  refine ⟨World.grownBy.os h, World.grownBy.tape h, World.grownBy.output h, Chg.size h, fun j hj _ => ?_⟩
  by_cases e : j = r
  ·exact Chg.heap k hj (by have := hne r rfl; omega)
  ·exact Chg.heap h hj e
def OweH {S : Nat} (P : Program) (fr : (Nat → Value) → Array Value) (df : List Deferred) (w : World) (row : Option Nat) (gG s1 s2 : Nat) (F G2 : Value → World → Prop) (L : List (PP S)) (lates : List (Nat × Nat × Nat)) (tmps : Array Value) (pre : List Nat) (k : Nat) (o : Oper) : Prop :=
 ∀ f w1, (if pre.contains k then Ext w w1 else if k = s2 then ChgS row.toList w w1 else ChgS (row.toList ++ [gG]) w w1) → PostsOf (postO s1 F L) f w1 o.after.toList → LateFacts tmps f k lates →
  match opt2 k s1 s2 with
  | some true => OpGoal P o ⟨fr f, df⟩ f w1 (fun a b => a.grownBy b row) F
  | some false => OpGoal P o ⟨fr f, df⟩ f w1 (Chg gG) (fun _ w2 => G2 (f s1) w2)
  | none => OpGoal P o ⟨fr f, df⟩ f w1 Ext (L.getD k PP.any).p
def OwesH {S : Nat} (P : Program) (fr : (Nat → Value) → Array Value) (df : List Deferred) (w : World) (row : Option Nat) (gG s1 s2 : Nat) (F G2 : Value → World → Prop) (L : List (PP S)) (lates : List (Nat × Nat × Nat)) (tmps : Array Value) (pre : List Nat) : List Oper → Nat → Prop
 | [], _ => True
 | o :: l, k => OweH P fr df w row gG s1 s2 F G2 L lates tmps pre k o ∧ OwesH P fr df w row gG s1 s2 F G2 L lates tmps pre l (k + 1)
theorem owesH_at {S : Nat} {P : Program} {fr : (Nat → Value) → Array Value} {df : List Deferred} {w : World} {row : Option Nat} {gG s1 s2 : Nat} {F G2 : Value → World → Prop} {L : List (PP S)} {lates : List (Nat × Nat × Nat)} {tmps : Array Value} {pre : List Nat} :
  ∀ (l : List Oper) (k : Nat), OwesH P fr df w row gG s1 s2 F G2 L lates tmps pre l k → ∀ i o, l[i]? = some o → OweH P fr df w row gG s1 s2 F G2 L lates tmps pre (k + i) o
 | [], _, _, i, o, h => by simp at h
 | x :: l, k, hs, i, o, h => by
  cases i with
  | zero =>
   simp only [List.getElem?_cons_zero, Option.some.injEq] at h
   subst h
   exact hs.1
  | succ i =>
   have := owesH_at l (k + 1) hs.2 i o (by simpa using h)
   rwa [show k + 1 + i = k + (i + 1) by omega] at this
theorem pp_grown {S : Nat} (p : PP S) (hc : p.c = false) {row : Option Nat} (hA : ∀ g, row = some g → g < S) {v : Value} {w1 w2 : World} (h : w1.grownBy w2 row) (hp : p.p v w1) : p.p v w2 := by
 cases row with
 | none => exact p.m _ _ _ h hp
 | some g => exact p.m2 hc g (hA g rfl) _ _ _ h hp
theorem wp_region_hand {P : Program} {id : Nat} {l : List Oper} {Q : Exit → Act → World → Prop} {tmps : Array Value} {df : List Deferred} {w : World} {fr : (Nat → Value) → Array Value}
  (row : Option Nat) (gG s1 s2 : Nat) (F G2 : Value → World → Prop) (L : List (PP w.heap.size)) (lates : List (Nat × Nat × Nat)) (pre : List Nat)
  (hm : P.follows .mixedOrders = true) (hok : (regOk l.toArray tmps.size && lateOk l.toArray lates && ancOk l.toArray [s1] (pre.filter (· != s1)) && ancOk l.toArray [s2] (s1 :: pre.filter (· != s1))) = true)
  (hfr : ∀ f, fillR l.toArray tmps f = fr f)
  (hss : s1 ≠ s2) (hA : ∀ g, row = some g → g < w.heap.size ∧ g ≠ gG) (hGl : gG < w.heap.size)
  (hF : ∀ u w1 w2, Ext w1 w2 → F u w1 → F u w2) (hFG : ∀ u w1 w2, Chg gG w1 w2 → F u w1 → F u w2) (hG2 : ∀ u w1 w2, Ext w1 w2 → G2 u w1 → G2 u w2)
  (hL : ∀ p ∈ L, p.c = false) (hL2 : ∀ v w, (L.getD s2 PP.any).p v w)
  (hstep : OwesH P fr df w row gG s1 s2 F G2 L lates tmps pre l 0)
  (hend : ∀ f w1, ChgS (row.toList ++ [gG]) w w1 → F (f s1) w1 → G2 (f s1) w1 → AllPosts (postO s1 F L) f w1 l.length 0 → Q .normal ⟨fr f, df⟩ w1)
  (hs1 : s1 < l.length) (hs2 : s2 < l.length) :
  (Code.region id l.toArray true).wp P Q ⟨tmps, df⟩ w := by
 simp only [Bool.and_eq_true] at hok
 obtain ⟨⟨⟨hok1, hok2⟩, hok3⟩, hok4⟩ := hok
 have hLk : ∀ k, (L.getD k PP.any).c = false := fun k => by
  by_cases hk : k < L.length
  ·rw [List.getD, List.getElem?_eq_getElem hk]
   exact hL _ (List.getElem_mem hk)
  ·rw [List.getD, List.getElem?_eq_none (by omega)]
   rfl
 have hself : ∀ s, ∀ j ∈ [s], Anc l.toArray j s := fun s j hj => by
  have : j = s := by simpa using hj
  rw [this]; exact .self
 have hanc2 : Anc l.toArray s1 s2 := anc_of _ [s2] (hself s2) hok4 s1 (List.mem_cons_self ..)
 have hrow : ∀ g, row = some g → g < w.heap.size := fun g h => (hA g h).1
 have hsz : ∀ {a b : World}, a.grownBy b row → a.heap.size ≤ b.heap.size := fun h => World.grownBy.size h
 refine wp_region_posts (D := fun listed f b => listed s2 = true → listed s1 = true ∧ G2 (f s1) b) (G := fun a b => ChgS (row.toList ++ [gG]) a b) (G0 := fun s a b => (s = s1 → Chg gG a b) ∧ (s = s2 → a.grownBy b row))
  (R := fun i w1 w2 => if i = s1 then w1.grownBy w2 row else if i = s2 then Chg gG w1 w2 else Ext w1 w2) (post := postO s1 F L) hm hok1 (fun _ h => by cases h) ((Ext.refl w).drew.chgS _) (fun s => ⟨fun _ => ((Ext.refl w).drew).chg gG, fun _ => ext_grown row (Ext.refl w).drew⟩) ?_ ?_ ?_ ?_ ?_
 ·intro i w1 w2 hG hR
  by_cases hi : i = s1
  ·simp only [hi, if_true] at hR; exact hG.trans (grown_chgS gG hR)
  ·by_cases h2 : i = s2
   ·subst h2
    simp only [hi, if_false, if_true] at hR
    exact hG.trans (hR.chgS (by simp))
   ·simp only [hi, h2, if_false] at hR; exact hG.trans (hR.chgS _)
 ·rintro s i w1 w2 his ⟨h1, h2⟩ hR
  by_cases hi : i = s1
  ·subst hi
   simp only [if_true] at hR
   exact ⟨fun e => absurd e.symm his, fun e => grown_trans (h2 e) hR⟩
  ·by_cases hi2 : i = s2
   ·subst hi2
    simp only [hi, if_false, if_true] at hR
    exact ⟨fun e => (h1 e).trans hR, fun e => absurd e.symm his⟩
   ·simp only [hi, hi2, if_false] at hR
    exact ⟨fun e => (h1 e).trans (hR.chg gG), fun e => grown_trans (h2 e) (ext_grown row hR)⟩
 ·intro i j v w1 w2 hij hG hR hp
  unfold postO at hp ⊢
  by_cases hj : j = s1
  ·simp only [hj, if_true] at hR
   have hi : i ≠ s1 := fun h => hij (by rw [h, hj])
   simp only [hi, if_false] at hp ⊢
   exact pp_grown _ (hLk i) hrow hR hp
  ·by_cases hj2 : j = s2
   ·simp only [hj, if_false] at hR
    simp only [hj2, if_true] at hR
    by_cases hi : i = s1
    ·simp only [hi, if_true] at hp ⊢
     exact hFG _ _ _ hR hp
    ·simp only [hi, if_false] at hp ⊢
     exact (L.getD i PP.any).m2 (hLk i) _ hGl _ _ _ hR hp
   ·simp only [hj, hj2, if_false] at hR
    by_cases hi : i = s1
    ·simp only [hi, if_true] at hp ⊢
     exact hF _ _ _ hR hp
    ·simp only [hi, if_false] at hp ⊢
     exact (L.getD i PP.any).m _ _ _ hR hp
 ·intro i o ho listed f w1 hli hbefore hD hG hpre hp hl
  have hO := owesH_at l 0 hstep i o (by simpa using ho)
  rw [Nat.zero_add] at hO
  rw [hfr]
  have hEE : (if pre.contains i then Ext w w1 else if i = s2 then ChgS row.toList w w1 else ChgS (row.toList ++ [gG]) w w1) := by
   split
   ·rename_i hpi
    have h1 : Anc l.toArray i s1 := by
     by_cases his : i = s1
     ·rw [his]; exact .self
     ·exact anc_of _ [s1] (hself s1) hok3 i (List.mem_filter.2 ⟨by simpa using hpi, by simpa using his⟩)
    have h2 : Anc l.toArray i s2 := by
     by_cases his : i = s1
     ·rw [his]; exact hanc2
     ·exact anc_of _ [s2] (hself s2) hok4 i (List.mem_cons_of_mem _ (List.mem_filter.2 ⟨by simpa using hpi, by simpa using his⟩))
    exact grown_ext ((hpre s2 h2).2 rfl) ((hpre s1 h1).1 rfl) fun r hr => (hA r hr).2
   ·split
    ·rename_i h2
     subst h2
     have := (hpre i .self).2 rfl
     cases row with
     | none => exact Ext.chgS _ this
     | some g => exact Chg.chgS (g := g) this (by simp)
    ·exact hG
  have hg := hO f w1 hEE (postsOf_of _ fun e he hb => hp e (Array.mem_toList_iff.1 he) hb) (lateFacts_of hl lates hok2)
  unfold postO
  by_cases h1 : i = s1
  ·subst h1
   simp only [opt2, if_true] at hg
   refine OpGoal.mono (fun w' h => by simp only [if_true]; exact h) (fun v w' _ h => ⟨by simp only [if_true]; exact h, fun h2 => ?_⟩) (fun h => ⟨by simp only [if_true]; exact h, fun h2 => ?_⟩) hg
   ·simp only [Ne.symm hss, if_false] at h2
    have := (hD h2).1
    rw [hli] at this
    cases this
   ·simp only [Ne.symm hss, if_false] at h2
    have := (hD h2).1
    rw [hli] at this
    cases this
  ·by_cases h2 : i = s2
   ·subst h2
    simp only [opt2, h1, if_false, if_true] at hg
    have hb := hbefore s1 hanc2 hss
    refine OpGoal.mono (fun w' h => by simp only [h1, if_false, if_true]; exact h) (fun v w' _ h => ⟨by simp only [h1, if_false]; exact hL2 v w', fun _ => ?_⟩) (fun h => ⟨by simp only [h1, if_false]; exact hL2 undef w1, fun _ => ?_⟩) hg
    ·simp only [hss, if_false]
     exact ⟨hb, h⟩
    ·simp only [hss, if_false]
     exact ⟨hb, h⟩
   ·simp only [opt2, h1, h2, if_false] at hg
    refine OpGoal.mono (fun w' h => by simp only [h1, h2, if_false]; exact h) (fun v w' hR' h => ⟨by simp only [h1, if_false]; exact h, fun h3 => ?_⟩) (fun h => ⟨by simp only [h1, if_false]; exact h, fun h3 => ?_⟩) hg
    ·simp only [Ne.symm h2, if_false] at h3
     simp only [Ne.symm h1, if_false]
     obtain ⟨k1, k2⟩ := hD h3
     exact ⟨k1, hG2 _ _ _ hR' k2⟩
    ·simp only [Ne.symm h2, if_false] at h3
     simp only [Ne.symm h1, if_false]
     exact hD h3
 ·intro f w1 hG hp hd
  obtain ⟨listed, hall, hd⟩ := hd
  rw [hfr]
  have hF1 := hp s1 (by simpa using hs1)
  unfold postO at hF1
  rw [if_pos rfl] at hF1
  exact hend f w1 hG hF1 (hd (hall s2 (by simpa using hs2))).2 (allPosts_of _ _ fun i _ hi => hp i (by simpa using hi))
end Go.Proofs.Ytdmjgjcljbogiaa
/-
 Matrices: the columns (mat.Transpose).
-/
namespace Go.Proofs.Ytdmjgjcljbogiaa
set_option maxRecDepth 100000
set_option maxHeartbeats 1000000
open Go.RowKit
set_option linter.unusedVariables false
set_option linter.unusedSimpArgs false
/-! Plain: the columns. -/
def rngV (f : Nat → Rat) (i : Nat) : List (Int × Rat) := (List.range i).map fun (j : Nat) => ((j : Int), f j)
theorem rng_succ (f : Nat → Rat) (i : Nat) : rngV f (i + 1) = rngV f i ++ [((i : Int), f i)] := by unfold rngV; rw [List.range_succ, List.map_append]; rfl
theorem rng_mem {f : Nat → Rat} {i : Nat} {x : Int × Rat} (h : x ∈ rngV f i) : 0 ≤ x.1 ∧ x.1 < (i : Int) := by
 unfold rngV at h
 obtain ⟨j, hj, rfl⟩ := List.mem_map.1 h
 have := List.mem_range.1 hj
 exact ⟨by show (0 : Int) ≤ (j : Int); omega, by show (j : Int) < (i : Int); omega⟩
theorem rng_up (f : Nat → Rat) : ∀ i, Up (rngV f i)
 | 0 => Up.nil
 | i + 1 => by
  rw [rng_succ]
  exact (rng_up f i).snoc (by omega) fun x hx => (rng_mem hx).2
theorem rng_get (f : Nat → Rat) (c : Int) : ∀ i : Nat, getV (rngV f i) c = if 0 ≤ c ∧ c < (i : Int) then f c.toNat else 0
 | 0 => by rw [if_neg (by omega)]; exact getV_nil c
 | i + 1 => by
  rw [rng_succ, getV_snoc, rng_get f c i]
  by_cases h0 : 0 ≤ c
  ·by_cases h1 : c < (i : Int)
   ·rw [if_pos ⟨h0, h1⟩, if_neg (by omega), if_pos ⟨h0, by omega⟩, Rat.add_zero]
   ·rw [if_neg (by omega), Rat.zero_add]
    by_cases h2 : c = (i : Int)
    ·subst h2
     rw [if_pos ⟨rfl, h0⟩, if_pos ⟨h0, by omega⟩, Int.toNat_natCast]
    ·rw [if_neg (by omega), if_neg (by omega)]
  ·rw [if_neg (by omega), if_neg (by omega), if_neg (by omega), Rat.add_zero]
theorem mkV_self {m : List (Int × Rat)} (h : Nf m) : mkV m = m := (mkV_eq h fun _ => rfl).symm
def pickV (l : List (Int × Rat)) (i c : Int) : List (Int × Rat) := (l.filter fun t => decide (t.1 = c)).map fun t => (i, t.2)
theorem pick_snoc (l : List (Int × Rat)) (d : Int) (x : Rat) (i c : Int) : pickV (l ++ [(d, x)]) i c = pickV l i c ++ (if d = c then [(i, x)] else []) := by
 unfold pickV
 rw [List.filter_append, List.map_append]
 congr 1
 by_cases h : d = c
 ·rw [if_pos h]; simp [h]
 ·rw [if_neg h]; simp [h]
theorem pick_len (l : List (Int × Rat)) (i c : Int) : (pickV l i c).length ≤ l.length := by
 unfold pickV
 rw [List.length_map]
 exact List.length_filter_le ..
theorem pick_nf {l : List (Int × Rat)} (h : Nf l) (i c : Int) : pickV l i c = if getV l c = 0 then [] else [(i, getV l c)] := by
 induction l with
 | nil => rw [getV_nil, if_pos rfl]; rfl
 | cons x l ih =>
  have ht := h.1.tail
  have i1 := ih ⟨ht.1, fun y hy => h.2 y (List.mem_cons_of_mem _ hy)⟩
  rw [h.1.getV_cons]
  by_cases hc : c = x.1
  ·subst hc
   rw [if_pos rfl, if_neg (h.2 x (List.mem_cons_self ..))]
   have hn : getV l x.1 = 0 := getV_none fun y hy => by have := ht.2.2 y hy; omega
   rw [if_pos hn] at i1
   unfold pickV at i1 ⊢
   rw [List.filter_cons_of_pos (by simp), List.map_cons, i1]
  ·rw [if_neg hc]
   rw [← i1]
   unfold pickV
   rw [List.filter_cons_of_neg (by simp; omega)]
def colP (rows : List (List (Int × Rat))) (i : Nat) (c : Int) : List (Int × Rat) := nz ((List.range i).map fun (j : Nat) => ((j : Int), getV (rows.getD j []) c))
theorem colP_len (rows : List (List (Int × Rat))) (i : Nat) (c : Int) : (colP rows i c).length ≤ i := by
 unfold colP nz
 refine Nat.le_trans (List.length_filter_le ..) ?_
 simp
theorem colP_succ {rows : List (List (Int × Rat))} {i : Nat} {r : List (Int × Rat)} (hr : rows[i]? = some r) (c : Int) : colP rows (i + 1) c = colP rows i c ++ pickV (mkV r) (i : Int) c := by
 rw [pick_nf (mkV_nf r), mkV_get]
 unfold colP nz
 rw [List.range_succ, List.map_append, List.filter_append]
 congr 1
 have : rows.getD i [] = r := by rw [List.getD_eq_getElem?_getD, hr]; rfl
 simp only [List.map_cons, List.map_nil, this]
 by_cases h : getV r c = 0
 ·rw [if_pos h]; simp [h]
 ·rw [if_neg h]; simp [h]
def transV (rows : List (List (Int × Rat))) (n : Nat) : List (List (Int × Rat)) := (List.range n).map fun (c : Nat) => colP rows rows.length (c : Int)
theorem transV_len (rows : List (List (Int × Rat))) (n : Nat) : (transV rows n).length = n := by unfold transV; simp
theorem transV_get (rows : List (List (Int × Rat))) {n c : Nat} (h : c < n) : (transV rows n)[c]? = some (colP rows rows.length (c : Int)) := by unfold transV; simp [h]
def trOk (rows : List (List (Int × Rat))) (n : Int) : Bool := (decide (0 ≤ n) && decide (n ≤ 65536)) && rows.all (fun r => (mkV r).all fun x => decide (x.1 < n))
theorem trOk_bad {rows : List (List (Int × Rat))} {n : Int} {r : List (Int × Rat)} {x : Int × Rat} (hr : r ∈ rows) (hx : x ∈ mkV r) (h : n ≤ x.1) : trOk rows n = false := by
 cases h0 : trOk rows n with
 | false => rfl
 | true =>
  unfold trOk at h0
  simp only [Bool.and_eq_true, List.all_eq_true, decide_eq_true_eq] at h0
  have := h0.2 r hr x hx
  omega
theorem trOk_good {rows : List (List (Int × Rat))} {n : Int} (h0 : 0 ≤ n) (h1 : n ≤ 65536) (h : ∀ r ∈ rows, ∀ x ∈ mkV r, x.1 < n) : trOk rows n = true := by
 unfold trOk
 simp only [Bool.and_eq_true, List.all_eq_true, decide_eq_true_eq]
 exact ⟨⟨h0, h1⟩, h⟩
theorem trOk_neg {rows : List (List (Int × Rat))} {n : Int} (h : n < 0) : trOk rows n = false := by
 unfold trOk
 rw [decide_eq_false (by omega)]
 rfl
theorem trOk_big {rows : List (List (Int × Rat))} {n : Int} (h : 65536 < n) : trOk rows n = false := by
 unfold trOk
 rw [decide_eq_false (p := n ≤ 65536) (by omega), Bool.and_false]
 rfl
/-! Memory: which blocks stay. -/
def Keep (e : TypeId) (w w' : World) : Prop := ∀ g cs, Bx e w g cs → Bx e w' g cs
theorem keep_of {e : TypeId} {bs : List Nat} {w w' : World} (h : ChgS bs w w') (hb : ∀ g ∈ bs, ∃ t cs, Bx t w g cs ∧ t ≠ e) : Keep e w w' := by
 intro g cs hg
 refine hg.chgS h fun hm => ?_
 obtain ⟨t, cs', hb', ht⟩ := hb g hm
 unfold Bx at hg hb'
 rw [hg] at hb'
 simp only [Option.some.injEq, Obj.cells.injEq] at hb'
 exact ht hb'.2.1.symm
theorem FrL.keep {e : TypeId} {k : IntKind} {B0 : Nat} {w w' : World} {v : Value} {xs : List Nat} (h : FrL e k B0 w v xs) (hk : Keep e w w') : FrL e k B0 w' v xs := by
 obtain ⟨ad, cap, h1, h2, h3, h4⟩ := h
 refine ⟨ad, cap, h1, h2, h3, ?_⟩
 rcases h4 with h4 | ⟨g', cur, h4, h5, h6, h7⟩
 ·exact .inl h4
 ·exact .inr ⟨g', cur, h4, h5, hk _ _ h6, h7⟩
theorem FrQ.keep {B0 : Nat} {w w' : World} {v : Value} {q : Rat} (h : FrQ B0 w v q) (hk : Keep 88 w w') : FrQ B0 w' v q := by
 obtain ⟨s, t, hst, hs, ht'⟩ := h
 exact ⟨s, t, hst, FrL.keep hs hk, FrL.keep ht' hk⟩
theorem LS.stay {e : TypeId} {n B : Nat} {w w' : World} {v : Value} {vs : List Value} (h : LS e n B w v vs) (hs : ∀ g cs, v.ownBlock = some g → Bx e w g cs → Bx e w' g cs) : LS e n B w' v vs := by
 refine ⟨h.1, h.2.1, ?_⟩
 rcases h.2.2 with h2 | ⟨g, cap, cur, h1, h2, h3, h4⟩
 ·exact .inl h2
 ·exact .inr ⟨g, cap, cur, h1, h2, hs g cur (by rw [h1]; rfl) h3, h4⟩
theorem TO.stay {B k : Nat} {w w' : World} {v : Value} {m : List (Int × Rat)} (h : TO B k w v m) (hk : Keep 88 w w') (hs : ∀ g cs, v.ownBlock = some g → Bx 106 w g cs → Bx 106 w' g cs) : TO B k w' v m := by
 obtain ⟨ts, h1, h2, h3⟩ := h
 exact ⟨ts, h1, h2.stay hs, fun i t x a b => ⟨(h3 i t x a b).1, (h3 i t x a b).2.1.keep hk, (h3 i t x a b).2.2⟩⟩
theorem TO.own {B k : Nat} {w : World} {v : Value} {m : List (Int × Rat)} (h : TO B k w v m) : ∀ g, v.ownBlock = some g → B ≤ g ∧ g < w.heap.size ∧ ∃ cs, Bx 106 w g cs := by
 obtain ⟨ts, h1, h2, h3⟩ := h
 obtain ⟨ad, cap, -, -, -, h4⟩ := h2.opn
 intro g hg
 exact (h4 g hg).2
def ApV (B S n : Nat) (cs : Array Value) (vs : List Value) (hv v : Value) (b : World) : Prop :=
 ∃ (g cap : Nat), v = .slice (some ⟨g, 0, none⟩) (n + 1) cap ∧ LS 106 4 B b v (vs ++ [.agg cs]) ∧ (hv.ownBlock = some g ∨ S ≤ g)
theorem ApV.ext {B S n : Nat} {cs : Array Value} {vs : List Value} {hv v : Value} {a b : World} (h : ApV B S n cs vs hv v a) (he : Ext a b) : ApV B S n cs vs hv v b := by
 obtain ⟨g, cap, h1, h2, h3⟩ := h
 exact ⟨g, cap, h1, h2.ext he, h3⟩
theorem ApV.chg {B S n G : Nat} {cs : Array Value} {vs : List Value} {hv v : Value} {a b : World} (h : ApV B S n cs vs hv v a) (he : Chg G a b) (hne : ∀ g, hv.ownBlock = some g → g ≠ G) (hG : G < S) : ApV B S n cs vs hv v b := by
 obtain ⟨g, cap, h1, h2, h3⟩ := h
 refine ⟨g, cap, h1, h2.stay fun g' cs' e hb => he.blk hb ?_, h3⟩
 rw [h1] at e
 simp only [Value.ownBlock, Option.some.injEq] at e
 subst e
 rcases h3 with h3 | h3
 ·exact hne _ h3
 ·omega
theorem ap_finV {B S0 S n : Nat} {cs : Array Value} {vs : List Value} {hv v' : Value} {w' : World} (hn : vs.length = n) (h5 : StrN 4 vs) (hc4 : cs.size = 4) (hc1 : cs.all (·.oneCell') = true) (h1 : w'.ownsRow B 106 4 v' (n + 1) (flatS vs ++ cs.toList)) (h3 : ∀ g, v'.ownBlock = some g → hv.ownBlock = some g ∨ S0 ≤ g) (hS : S ≤ S0) : ApV B S n cs vs hv v' w' := by
 have hLS : LS 106 4 B w' v' (vs ++ [.agg cs]) := by
  refine ⟨h5.app (.one hc4 hc1), ?_⟩
  have e : flatS (vs ++ [.agg cs]) = flatS vs ++ cs.toList := by
   rw [flatS_append]
   show flatS vs ++ (cs.toList ++ []) = _
   rw [List.append_nil]
  rw [e, List.length_append, hn]
  exact h1
 obtain ⟨g, cap, rest, e1, -⟩ := hLS.hold (by rw [List.length_append]; show 0 < _ + 1; omega)
 rw [List.length_append, hn] at e1
 refine ⟨g, cap, e1, hLS, ?_⟩
 rcases h3 g (by rw [e1]; rfl) with h | h
 ·exact .inl h
 ·exact .inr (by omega)
def PP.oneV {S : Nat} (cs : Array Value) : PP S := ⟨false, fun u w => ∃ (g : Nat), S ≤ g ∧ u = .slice (some ⟨g, 0, none⟩) 1 1 ∧ Bx 106 w g cs, fun _ _ _ h hp => (let ⟨g, h0, h1, h2⟩ := hp; ⟨g, h0, h1, h2.ext h⟩), fun _ _ hg _ _ _ h hp => (let ⟨g, h0, h1, h2⟩ := hp; ⟨g, h0, h1, h2.chg h (by omega)⟩)⟩
theorem tellOS {S : Nat} {w1 : World} {s1 : Nat} {F : Value → World → Prop} {L : List (PP S)} {f : Nat → Value} {l : List Edge} (hp : PostsOf (postO s1 F L) f w1 l) (n : Nat)
  (h : (match l[n]? with | some e => Region.binds .any e && e.on == s1 | none => false) = true) : F (f s1) w1 := by
 have := postsOf_nth l n s1 h hp
 unfold postO at this
 rw [if_pos rfl] at this
 exact this
theorem run_store1 {P : Program} (w : World) (g off : Nat) (t ty : TypeId) (cur : List Value) (ad : Option Addr) (n c : Nat) (hg : w.heap[g]? = some (.cells cur.toArray t (0, 0))) (hi : (P.info? ty).map (·.size) = some 1) (hfit : off < cur.length) :
  (storeVar ty ⟨g, off, none⟩ (.slice ad n c)).run P w = .ok () (w.setRow g (cur.set off (.slice ad n c)).toArray) := by
 have hst := run_storeCells_at P g off t [.slice ad n c] 0 cur.toArray w hg (by simp; omega) (fun u hu => by
  rw [List.mem_singleton] at hu
  subst hu
  rfl)
 cases hq : P.info? ty with
 | none => simp [hq] at hi
 | some i =>
  have hs : i.size = 1 := by simpa [hq] using hi
  have hc : (Value.slice ad n c).cells = #[.slice ad n c] := rfl
  have hset : cur.set off (.slice ad n c) = cur.take off ++ .slice ad n c :: cur.drop (off + 1) := by rw [List.set_eq_take_append_cons_drop, if_pos hfit]
  simp only [Nat.add_zero] at hst
  simp [storeVar, sizeOf, typeInfo, hq, hc, hs, hset, hst]
theorem og_store1 {P : Program} {o : Oper} {a : Act} {f : Nat → Value} {w : World} {post : Value → World → Prop} (g c : Nat) (t ty : TypeId) (cur : List Value) (ad : Option Addr) (n m : Nat) (x y : Operand) (hgd : o.guard = none) (ho : o.op = .store ty x y) (hx : a.eval x = .pointer (some ⟨g, c, none⟩)) (hy : a.eval y = .slice ad n m)
  (hty : (P.info? ty).map (·.size) = some 1) (hb : Bx t w g cur.toArray) (hc : c < cur.length) (h : ∀ w', Bx t w' g (cur.set c (.slice ad n m)).toArray → ∀ u, post u w') : OpGoal P o a f w (Chg g) post := by
 have hrun := run_store1 (P := P) w g c t ty cur ad n m hb hty hc
 unfold OpGoal
 rw [hgd]
 unfold Oper.wp execOp
 simp only [ho, hx, hy, Instr.storeAt, Instr.sureAddr, Sem.run_bind, Sem.run_pure, Result.andThen_ok, hrun]
 exact ⟨_, rfl, Chg.setRow w g _, h _ (Bx.setRow hb _) _⟩
def TrC (B G K N : Nat) (P : Nat → Prop) (q : Nat → List (Int × Rat)) (w : World) : Prop := B ≤ G ∧ ∃ cs : List Value, Bx 107 w G cs.toArray ∧ cs.length = N ∧ (∀ c u, cs[c]? = some u → TO B K w u (q c) ∧ ∀ g, u.ownBlock = some g → P g) ∧ ∀ (c d : Nat) (u v : Value) (g : Nat), c ≠ d → cs[c]? = some u → cs[d]? = some v → u.ownBlock = some g → v.ownBlock ≠ some g
theorem TrC.ext {B G K N : Nat} {P : Nat → Prop} {q : Nat → List (Int × Rat)} {w w' : World} (h : TrC B G K N P q w) (he : Ext w w') : TrC B G K N P q w' := by
 obtain ⟨h0, cs, h1, h2, h3, h4⟩ := h
 exact ⟨h0, cs, h1.ext he, h2, fun c u hu => ⟨(h3 c u hu).1.ext he, (h3 c u hu).2⟩, h4⟩
theorem TrC.congr {B G K N : Nat} {P : Nat → Prop} {q q' : Nat → List (Int × Rat)} {w : World} (h : TrC B G K N P q w) (hq : ∀ c, c < N → q c = q' c) : TrC B G K N P q' w := by
 obtain ⟨h0, cs, h1, h2, h3, h4⟩ := h
 exact ⟨h0, cs, h1, h2, fun c u hu => by rw [← hq c (by have := (List.getElem?_eq_some_iff.1 hu).1; omega)]; exact h3 c u hu, h4⟩
theorem TrC.mo {B G K N : Nat} {P : Nat → Prop} {q : Nat → List (Int × Rat)} {w : World} (h : TrC B G K N P q w) (hN : N ≤ 1000000) : MO B K w (.slice (some ⟨G, 0, none⟩) N N) ((List.range N).map q) := by
 obtain ⟨h0, cs, h1, h2, h3, h4⟩ := h
 subst h2
 refine ⟨cs, ⟨(Nat.mul_one _).symm, .inr ⟨G, cs.length, cs.toArray, rfl, h0, h1, Nat.le_refl _, by unfold maxLen; omega, by simp, by simp⟩⟩, by simp, fun i u y hu hy => ?_⟩
 have hi := (List.getElem?_eq_some_iff.1 hu).1
 rw [List.getElem?_map, List.getElem?_range hi] at hy
 simp only [Option.map_some, Option.some.injEq] at hy
 subst hy
 exact (h3 i u hu).1
theorem TrC.put {B G K N p c : Nat} {i : Int} {P : Nat → Prop} {q : Nat → List (Int × Rat)} {cs : List Value} {ps : Ps} {w5 w7 : World} {u v' : Value} {x : Rat} {b : Bool} {a1 a2 : Option Addr} {n1 c1 n2 c2 : Nat}
  (h0 : B ≤ G) (hBS : B ≤ w5.heap.size) (hb : Bx 107 w5 G cs.toArray) (hl : cs.length = N) (hT : ∀ c u, cs[c]? = some u → TO B K w5 u (q c) ∧ ∀ g, u.ownBlock = some g → P g) (hPS : ∀ g, w5.heap.size ≤ g → P g) (hD : ∀ (c d : Nat) (u v : Value) (g : Nat), c ≠ d → cs[c]? = some u → cs[d]? = some v → u.ownBlock = some g → v.ownBlock ≠ some g)
  (hu : cs[c]? = some u) (hps : lP ps = q c) (hfr : ∀ p ∈ ps, FrQ B w5 (ratv p.1) p.2 ∧ szQ p.2 ≤ K) (hx : FrQ B w5 (.agg #[.bool b, .slice a1 n1 c1, .slice a2 n2 c2]) x) (hsz : szQ x ≤ K)
  (hC : ChgS (u.ownBlock.toList ++ [G]) w5 w7) (hA : ApV B w5.heap.size p #[.int .i64 i, .bool b, .slice a1 n1 c1, .slice a2 n2 c2] ((tsP ps).map tmv) u v' w7) (hG2 : Bx 107 w7 G (cs.set c v').toArray) : TrC B G K N P (fun d => if d = c then q c ++ [(i, x)] else q d) w7 := by
 have hlt : c < cs.length := (List.getElem?_eq_some_iff.1 hu).1
 have hkeep : Keep 88 w5 w7 := keep_of hC fun g hg => by
  rcases List.mem_append.1 hg with h | h
  ·obtain ⟨-, -, cs', hb'⟩ := (hT c u hu).1.own g (by simpa using h)
   exact ⟨_, cs', hb', by decide⟩
  ·rw [List.mem_singleton] at h
   subst h
   exact ⟨_, _, hb, by decide⟩
 obtain ⟨g, cap, e1, hLS, hg⟩ := hA
 refine ⟨h0, cs.set c v', hG2, by rw [List.length_set, hl], fun d y hy => ?_, fun d e y z g' hde hy hz hyg hzg => ?_⟩
 ·by_cases hdc : d = c
  ·subst hdc
   rw [List.getElem?_set_self hlt] at hy
   cases hy
   refine ⟨?_, fun g' hg' => ?_⟩
   case refine_2 =>
    rw [e1] at hg'
    simp only [Value.ownBlock, Option.some.injEq] at hg'
    subst hg'
    rcases hg with hg | hg
    ·exact (hT d u hu).2 _ hg
    ·exact hPS _ hg
   show TO B K w7 v' (if d = d then q d ++ [(i, x)] else q d)
   rw [if_pos rfl]
   have e : q d ++ [(i, x)] = lP (ps ++ [((⟨i, b, a1, n1, c1, a2, n2, c2⟩ : TmC), x)]) := by rw [lP_snoc, hps]
   rw [e]
   refine TO.of_ps (by rw [tsP_snoc, List.map_append]; exact hLS) fun p hp => ?_
   rcases List.mem_append.1 hp with hp | hp
   ·exact ⟨(hfr p hp).1.keep hkeep, (hfr p hp).2⟩
   ·rw [List.mem_singleton] at hp
    subst hp
    exact ⟨hx.keep hkeep, hsz⟩
  ·rw [List.getElem?_set_ne (Ne.symm hdc)] at hy
   show TO B K w7 y (if d = c then q c ++ [(i, x)] else q d) ∧ _
   rw [if_neg hdc]
   refine ⟨(hT d y hy).1.stay hkeep fun g' cs' e hb' => hb'.chgS hC fun hm => ?_, (hT d y hy).2⟩
   rcases List.mem_append.1 hm with h | h
   ·exact hD c d u y g' (Ne.symm hdc) hu hy (by simpa using h) e
   ·rw [List.mem_singleton] at h
    subst h
    unfold Bx at hb hb'
    rw [hb] at hb'
    simp only [Option.some.injEq, Obj.cells.injEq] at hb'
    exact absurd hb'.2.1 (by decide)
 ·have hv : ∀ d y, d ≠ c → (cs.set c v')[d]? = some y → y.ownBlock = some g' → g' ≠ g := fun d y hdc hy hyg e => by
   subst e
   rw [List.getElem?_set_ne (Ne.symm hdc)] at hy
   rcases hg with hg | hg
   ·exact hD c d u y g' (Ne.symm hdc) hu hy hg hyg
   ·have := ((hT d y hy).1.own g' hyg).2.1
    omega
  have hvg : ∀ d y, d = c → (cs.set c v')[d]? = some y → y.ownBlock = some g' → g' = g := fun d y hdc hy hyg => by
   subst hdc
   rw [List.getElem?_set_self hlt] at hy
   cases hy
   rw [e1] at hyg
   simp only [Value.ownBlock, Option.some.injEq] at hyg
   exact hyg.symm
  by_cases h1 : d = c
  ·exact hv e z (by omega) hz hzg (hvg d y h1 hy hyg)
  ·by_cases h2 : e = c
   ·exact hv d y h1 hy hyg (hvg e z h2 hz hzg)
   ·rw [List.getElem?_set_ne (Ne.symm h1)] at hy
    rw [List.getElem?_set_ne (Ne.symm h2)] at hz
    exact hD d e y z g' hde hy hz hyg hzg
theorem TrC.low {B G K N : Nat} {P : Nat → Prop} {q : Nat → List (Int × Rat)} {w : World} (h : TrC B G K N P q w) : TrC B G K N (fun g => g < w.heap.size) q w := by
 obtain ⟨h0, cs, h1, h2, h3, h4⟩ := h
 exact ⟨h0, cs, h1, h2, fun c u hu => ⟨(h3 c u hu).1, fun g hg => ((h3 c u hu).1.own g hg).2.1⟩, h4⟩
theorem TrC.imp {B G K N : Nat} {P P' : Nat → Prop} {q : Nat → List (Int × Rat)} {w : World} (h : TrC B G K N P q w) (hP : ∀ g, P g → P' g) : TrC B G K N P' q w := by
 obtain ⟨h0, cs, h1, h2, h3, h4⟩ := h
 exact ⟨h0, cs, h1, h2, fun c u hu => ⟨(h3 c u hu).1, fun g hg => hP g ((h3 c u hu).2 g hg)⟩, h4⟩
theorem Keep.trans {e : TypeId} {a b c : World} (h : Keep e a b) (k : Keep e b c) : Keep e a c := fun g cs hb => k g cs (h g cs hb)
theorem Ext.keep {e : TypeId} {a b : World} (h : Ext a b) : Keep e a b := fun g cs hb => hb.ext h
def Mid (a b : Nat) (w w' : World) : Prop := w.heap.size ≤ w'.heap.size ∧ ∀ z, a ≤ z → z < b → w'.heap[z]? = w.heap[z]?
theorem Mid.refl (a b : Nat) (w : World) : Mid a b w w := ⟨Nat.le_refl _, fun _ _ _ => rfl⟩
theorem Mid.trans {a b : Nat} {u v w : World} (h : Mid a b u v) (k : Mid a b v w) : Mid a b u w := ⟨Nat.le_trans h.1 k.1, fun z h1 h2 => (k.2 z h1 h2).trans (h.2 z h1 h2)⟩
theorem Ext.mid {a b : Nat} {w w' : World} (h : Ext w w') (hb : b ≤ w.heap.size) : Mid a b w w' := ⟨h.size, fun z _ h2 => h.heap (by omega)⟩
theorem ChgS.mid {a b : Nat} {bs : List Nat} {w w' : World} (h : ChgS bs w w') (hb : b ≤ w.heap.size) (hn : ∀ g ∈ bs, g < a ∨ b ≤ g) : Mid a b w w' := ⟨h.2.2.2.1, fun z h1 h2 => h.2.2.2.2 z (by omega) fun hm => by have := hn z hm; omega⟩
theorem Bx.mid {a b g : Nat} {t : TypeId} {w w' : World} {cs : Array Value} (h : Bx t w g cs) (hm : Mid a b w w') (h1 : a ≤ g) (h2 : g < b) : Bx t w' g cs := (hm.2 g h1 h2).trans h
theorem TO.blk {B k : Nat} {w : World} {v : Value} {m : List (Int × Rat)} (h : TO B k w v m) : ∃ ad cap, v = .slice ad m.length cap ∧ m.length ≤ 9223372036854775807 ∧ ∀ (i : Nat) (x : Int × Rat), m[i]? = some x → ∃ g cs, ad = some ⟨g, 0, none⟩ ∧ B ≤ g ∧ Bx 106 w g cs ∧ ∃ b a1 n1 c1 a2 n2 c2,
  (cs[i * 4]? = some (.int .i64 x.1) ∧ cs[i * 4 + 1]? = some (.bool b) ∧ cs[i * 4 + 2]? = some (.slice a1 n1 c1) ∧ cs[i * 4 + 3]? = some (.slice a2 n2 c2)) ∧ FrQ B w (.agg #[.bool b, .slice a1 n1 c1, .slice a2 n2 c2]) x.2 ∧ szQ x.2 ≤ k := by
 obtain ⟨ad, cap, e, hm, hat⟩ := h.at
 refine ⟨ad, cap, e, hm, fun i x hx => ?_⟩
 obtain ⟨g, rfl, b, a1, n1, c1, a2, n2, c2, hc, hF, hs⟩ := hat i x hx
 obtain ⟨h1, -, cs, h3⟩ := h.own g (by rw [e]; rfl)
 obtain ⟨k0, k1, k2, k3⟩ := hc w (Ext.refl w)
 rw [h3.cell] at k0 k1 k2 k3
 exact ⟨g, cs, rfl, h1, h3, b, a1, n1, c1, a2, n2, c2, ⟨k0, k1, k2, k3⟩, hF, hs⟩
theorem all4V {x b s t : Value} (h0 : x.oneCell' = true) (h1 : b.oneCell' = true) (h2 : s.oneCell' = true) (h3 : t.oneCell' = true) : (#[x, b, s, t] : Array Value).all (·.oneCell') = true := by simp [h0, h1, h2, h3]
theorem infoM : ∃ i, Try.prog.info? 107 = some i ∧ i.size = 1 ∧ i.bytes = 24 ∧ i.zero = some (.slice none 0 0) := by
 have h : (Try.prog.info? 107).map (fun i => (i.size, i.bytes, i.zero)) = some (1, 24, some (.slice none 0 0)) := by kernel_rfl
 cases hi : Try.prog.info? 107 with
 | none => rw [hi] at h; cases h
 | some i =>
  rw [hi] at h
  simp only [Option.map_some, Option.some.injEq, Prod.mk.injEq] at h
  exact ⟨i, rfl, h⟩
theorem made_rep (n : Nat) : madeCells #[.slice none 0 0] (n * 1) = (List.replicate n (Value.slice none 0 0)).toArray := by
 apply Array.ext'
 apply List.ext_getElem?
 intro j
 rcases Nat.lt_or_ge j n with hj | hj
 ·rw [Array.getElem?_toList, List.toList_toArray, List.getElem?_replicate, if_pos hj]
  unfold madeCells
  rw [Array.getElem?_map, Array.getElem?_range, if_pos (by omega)]
  simp [Nat.mod_one]
 ·rw [List.getElem?_eq_none (by rw [Array.length_toList, size_madeCells]; omega), List.getElem?_eq_none (by simp; omega)]
theorem make_rows (n : Nat) (hn : n ≤ 65536) : ∃ CS : Array Value, CS = (List.replicate n (Value.slice none 0 0)).toArray ∧ ∀ w : World, (Instr.makeSlice 68 (.int .i64 (n : Int)) (.int .i64 (n : Int))).run Try.prog w = .ok (.slice (some ⟨w.heap.size, 0, none⟩) n n) (w.alloc (.cells CS 107)) := by
 obtain ⟨i, h1, h2, h3, h4⟩ := infoM
 refine ⟨_, rfl, fun w => ?_⟩
 have hr := run_make (P := Try.prog) w 68 107 i (.slice none 0 0) Try.underlying68 h1 h4 .i64 .i64 n n (by omega) (Int.le_refl _) (by rw [h3]; omega) (by omega)
 simp only [Int.toNat_natCast] at hr
 rw [hr, h2, show (Value.slice none 0 0).cells = #[.slice none 0 0] from rfl, ← made_rep]
theorem TrC.new (B K N : Nat) (w : World) (hB : B ≤ w.heap.size) (CS : Array Value) (hCS : CS = (List.replicate N (Value.slice none 0 0)).toArray) : TrC B w.heap.size K N (fun _ => True) (fun _ => []) (w.alloc (.cells CS 107)) := by
 have hr : ∀ {c : Nat} {u : Value}, (List.replicate N (Value.slice none 0 0))[c]? = some u → u = .slice none 0 0 := fun {c u} h => by
  rw [List.getElem?_replicate] at h
  split at h
  ·cases h; rfl
  ·cases h
 refine ⟨hB, List.replicate N (.slice none 0 0), by rw [← hCS]; exact Bx.new w _ CS, by simp, fun c u hu => ⟨by rw [hr hu]; exact TO.nil0 _ _ _, fun _ _ => trivial⟩, fun c d u v g _ hu _ hg => by rw [hr hu] at hg; cases hg⟩
end Go.Proofs.Ytdmjgjcljbogiaa
/-
 Matrices: the columns: the walk (mat.Transpose).
-/
namespace Go.Proofs.Ytdmjgjcljbogiaa
set_option maxRecDepth 100000
set_option maxHeartbeats 1000000
open Go.RowKit
set_option linter.unusedVariables false
set_option linter.unusedSimpArgs false
set_option maxHeartbeats 8000000 in
theorem transpose_calls (k N : Nat) (v : Value) (nI : Int) (rows : List (List (Int × Rat))) (w : World) (hv : ML k w v rows) (hN : ∀ r ∈ rows, r.length ≤ N) (hN30 : N ≤ 1073741824) (hn : rows.length ≤ 1000000) (hk : (N + 1) * (k + 1) ≤ 34359738000) :
  Calls Try.prog 57 #[v, .int .i64 nI] w fun e w' => ∃ v', e = .returned (.tuple #[v', .int .i64 (scE (trOk rows nI))]) ∧ (trOk rows nI = true → MO w.heap.size (N * (k + 1)) w' v' (transV rows nI.toNat)) ∧ (trOk rows nI = false → v' = .slice none 0 0) ∧ Ext w w' := by
 obtain ⟨ad, n, cap, hnl, rfl, hn1, hat⟩ := hv.at
 rw [← hnl] at hn
 obtain ⟨K, hK⟩ : ∃ K, K = N * (k + 1) := ⟨_, rfl⟩
 rw [← hK]
 have HK := Lib.hid (And.intro hK hk)
 have HN := Lib.hid hnl
 have HAT := Lib.hid hat
 have HL := Lib.hid hN
 clear hnl hat hv hN hK hk
 go_enter Try.func57, Try.ntmps57
 by_cases h1 : nI < 0
 ·have hS : Hid (trOk rows nI = false) := Lib.hid (trOk_neg h1)
  go_wp2
  go_ret2
  exact ⟨_, by rw [hS.out] <;> rfl, (fun h => by rw [hS.out] at h; cases h), fun _ => rfl, Ext.refl _⟩
 by_cases h2 : 65536 < nI
 ·have hS : Hid (trOk rows nI = false) := Lib.hid (trOk_big h2)
  go_wp2
  go_ret2
  exact ⟨_, by rw [hS.out] <;> rfl, (fun h => by rw [hS.out] at h; cases h), fun _ => rfl, Ext.refl _⟩
 obtain ⟨M, rfl⟩ : ∃ M : Nat, nI = (M : Int) := ⟨nI.toNat, by omega⟩
 obtain ⟨CS, hCS, hmk⟩ := make_rows M (by omega)
 obtain ⟨G, hGw⟩ : ∃ G, G = w.heap.size := ⟨_, rfl⟩
 obtain ⟨w1, hw1⟩ : ∃ w1, w1 = w.alloc (.cells CS 107) := ⟨_, rfl⟩
 have e1 : Ext w w1 := hw1 ▸ (Ext.refl _).alloc _
 have HT1 : Hid (TrC w.heap.size G K M (fun _ => True) (fun c => colP rows 0 (c : Int)) w1) := Lib.hid (by
  have := TrC.new w.heap.size K M w (Nat.le_refl _) CS hCS
  rw [hGw, hw1]
  exact this)
 have hB : w.heap.size ≤ G := by omega
 clear hCS
 go_wp2_with fail
 rw [← hw1, ← hGw]
 clear hw1 hGw hmk
 go_loopw [21] (fun s21 wr => ∃ (i : Nat), i ≤ n ∧ s21 = .int .i64 (i : Int) ∧ Hid (TrC w.heap.size G K M (fun _ => True) (fun c => colP rows i (c : Int)) wr ∧ ∀ r ∈ rows.take i, ∀ x ∈ mkV r, x.1 < (M : Int)) ∧ Ext w wr) (fun s21 _ => ((n : Int) - intOf s21).toNat)
 case atStart => exact ⟨0, Nat.zero_le _, rfl, Lib.hid ⟨HT1.out, fun r hr => by simp at hr⟩, e1⟩
 case round =>
  obtain ⟨i, hi, rfl, HS, hE0⟩ := hrel
  clear HT1 e1
  rcases Nat.eq_or_lt_of_le hi with hin | hin
  ·subst hin
   have hlt : ¬ ((i : Int) < (i : Int)) := by omega
   have hS : Hid (trOk rows (M : Int) = true) := Lib.hid (trOk_good (by omega) (by omega) (by have := HS.out.2; rwa [HN.out, List.take_length] at this))
   have hM : Hid (MO w.heap.size K wr (.slice (some ⟨G, 0, none⟩) M M) (transV rows M)) := Lib.hid (by
    have := HS.out.1.mo (by omega)
    unfold transV
    rw [← HN.out]
    exact this)
   go_wp2
   go_ret2
   exact ⟨_, by rw [hS.out] <;> rfl, fun _ => hM.out, (fun h => by rw [hS.out] at h; cases h), hE0⟩
  ·have hlt : (i : Int) < (n : Int) := by omega
   obtain ⟨r, hr⟩ : ∃ x, rows[i]? = some x := ⟨_, List.getElem?_eq_getElem (by rw [← HN.out]; exact hin)⟩
   obtain ⟨g, off, rfl, a1, n1, c1, hcell, hTL⟩ := HAT.out i _ hr
   have hc0 := hcell wr hE0
   have hrm := List.mem_of_getElem? hr
   have hrN := HL.out r hrm
   have HR := Lib.hid (And.intro hTL (And.intro hr hrm))
   have hm : (r.length + 1) * (k + 1) ≤ (N + 1) * (k + 1) := Nat.mul_le_mul_right _ (by omega)
   have hm2 : r.length * (k + 1) ≤ N * (k + 1) := Nat.mul_le_mul_right _ (by omega)
   have HM := Lib.hid (And.intro (Nat.le_trans hm HK.out.2) (show r.length * (k + 1) ≤ K by rw [HK.out.1]; exact hm2))
   have hwr := hE0.size
   clear hcell hr hTL hm hm2 hrm
   go_wp2_with fail
   refine (vmake_calls k _ r wr (HR.out.1.ext hE0) (by omega) HM.out.1).mono ?_
   rintro e w6 ⟨v6, rfl, hto, e6⟩
   obtain ⟨ad6, cap6, rfl, hl6, hat6⟩ := (hto.le HM.out.2).blk
   have HAT6 := Lib.hid hat6
   have hLr := mkV_len r
   obtain ⟨L, hL⟩ : ∃ L, L = (mkV r).length := ⟨_, rfl⟩
   rw [← hL] at hl6 hLr ⊢
   have HLL := Lib.hid hL
   have hs6 := e6.size
   have hE6 := hE0.trans e6
   have hGo : G < wr.heap.size := by obtain ⟨-, cs, hb, -⟩ := HS.out.1; exact hb.lt
   have HS6 : Hid (TrC w.heap.size G K M (fun g => g < wr.heap.size ∨ w6.heap.size ≤ g) (fun c => colP rows i (c : Int) ++ pickV ((mkV r).take 0) (i : Int) (c : Int)) w6) := Lib.hid ((((HS.out.1.low).imp fun g hg => .inl hg).ext e6).congr fun c _ => by rw [List.take_zero]; exact (List.append_nil _).symm)
   have HSB := Lib.hid HS.out.2
   clear hc0 hto hat6 hL HS
   go_wp2_with fail
   obtain ⟨wo, hwo⟩ : ∃ wo : World, wo = wr := ⟨_, rfl⟩
   rw [← hwo] at hE0 hwr e6 hs6 HAT6 HS6 hGo
   clear hwo
   go_loopw [29] (fun s29 wr => ∃ (j : Nat), j ≤ L ∧ s29 = .int .i64 (j : Int) ∧ Hid (TrC w.heap.size G K M (fun g => g < wo.heap.size ∨ w6.heap.size ≤ g) (fun c => colP rows i (c : Int) ++ pickV ((mkV r).take j) (i : Int) (c : Int)) wr ∧ Mid wo.heap.size w6.heap.size w6 wr ∧ Keep 88 w6 wr ∧ ∀ x ∈ (mkV r).take j, x.1 < (M : Int)) ∧ Ext w wr) (fun s29 _ => ((L : Int) - intOf s29).toNat)
   case atStart => exact ⟨0, Nat.zero_le _, rfl, Lib.hid ⟨HS6.out, Mid.refl _ _ _, fun _ _ h => h, fun x hx => by simp at hx⟩, hE6⟩
   case round =>
    obtain ⟨j, hj, rfl, HS, hEw⟩ := hrel
    clear HS6
    have hmid := HS.out.2.1
    have hw6r : w6.heap.size ≤ wr.heap.size := hmid.1
    rcases Nat.eq_or_lt_of_le hj with hjn | hjn
    ·subst hjn
     have hlt2 : ¬ ((j : Int) < (j : Int)) := by omega
     have htk : (mkV r).take j = mkV r := by rw [HLL.out, List.take_length]
     have HN1 : Hid (TrC w.heap.size G K M (fun _ => True) (fun c => colP rows (i + 1) (c : Int)) wr ∧ ∀ r ∈ rows.take (i + 1), ∀ x ∈ mkV r, x.1 < (M : Int)) := Lib.hid (by
      have h := HS.out
      rw [htk] at h
      refine ⟨(h.1.imp fun _ _ => trivial).congr fun c _ => (colP_succ HR.out.2.1 (c : Int)).symm, fun s hs => ?_⟩
      rw [take_next HR.out.2.1] at hs
      rcases List.mem_append.1 hs with hs | hs
      ·exact HSB.out s hs
      ·rw [List.mem_singleton] at hs
       subst hs
       exact h.2.2.2)
     clear htk hmid
     go_wp2
     go_roundw
     case rel => exact ⟨i + 1, by omega, congrArg (Value.int .i64) (by omega), HN1, hEw⟩
     case measure => simp [intOf]; omega
    ·have hlt2 : (j : Int) < (L : Int) := by omega
     obtain ⟨x, hx⟩ : ∃ x, (mkV r)[j]? = some x := ⟨_, List.getElem?_eq_getElem (by rw [← HLL.out]; exact hjn)⟩
     have hx0 : 0 ≤ x.1 := (mkV_nf r).1.2 x (List.mem_of_getElem? hx)
     obtain ⟨g6, cs6, rfl, hg6, hb6, b', a1', n1', c1', a2', n2', c2', ⟨k0, k1, k2, k3⟩, hFr, hsz⟩ := HAT6.out j x hx
     have hb6r := hb6.mid hmid hg6 hb6.lt
     have hc0 : wr.cell? ⟨g6, j * 4, none⟩ = some (.int .i64 x.1) := by rw [hb6r.cell]; exact k0
     have hc1 : wr.cell? ⟨g6, j * 4 + 1, none⟩ = some (.bool b') := by rw [hb6r.cell]; exact k1
     have hc2 : wr.cell? ⟨g6, j * 4 + 2, none⟩ = some (.slice a1' n1' c1') := by rw [hb6r.cell]; exact k2
     have hc3 : wr.cell? ⟨g6, j * 4 + 3, none⟩ = some (.slice a2' n2' c2') := by rw [hb6r.cell]; exact k3
     obtain ⟨xc, xq⟩ := x
     simp only at hc0 hFr hsz hx0
     have HFR := Lib.hid (And.intro (hFr.keep HS.out.2.2.1) hsz)
     have HX := Lib.hid (And.intro hx (take_next hx))
     obtain ⟨w5, hw5, e5, b5, s5⟩ := alloc1 wr #[.int .i64 xc, .bool b', .slice a1' n1' c1', .slice a2' n2' c2'] 106
     have hwr2 := hEw.size
     clear hx k0 k1 k2 k3 hFr hsz hb6 hb6r
     by_cases hcc : (M : Int) ≤ xc
     ·have hS : Hid (trOk rows (M : Int) = false) := Lib.hid (trOk_bad HR.out.2.2 (List.mem_of_getElem? HX.out.1) hcc)
      go_wp2
      go_ret2
      rw [← hw5]
      exact ⟨_, by rw [hS.out] <;> rfl, (fun h => by rw [hS.out] at h; cases h), fun _ => rfl, hEw.trans e5⟩
     ·obtain ⟨cn, rfl⟩ : ∃ cn : Nat, xc = (cn : Int) := ⟨xc.toNat, by omega⟩
      have hcM : cn < M := by omega
      have hcM' : (cn : Int) < (M : Int) := by omega
      obtain ⟨-, cs, hb, hl, hT, hD⟩ := HS.out.1
      obtain ⟨u, hu⟩ : ∃ u, cs[cn]? = some u := ⟨_, List.getElem?_eq_getElem (by omega)⟩
      obtain ⟨hTu, hPu⟩ := hT cn u hu
      obtain ⟨p, hp⟩ : ∃ p, p = (colP rows i (cn : Int) ++ pickV ((mkV r).take j) (i : Int) (cn : Int)).length := ⟨_, rfl⟩
      have hpb : p ≤ 1074741824 := by
       have h1 := colP_len rows i (cn : Int)
       have h2 := pick_len ((mkV r).take j) (i : Int) (cn : Int)
       rw [List.length_take] at h2
       rw [List.length_append] at hp
       omega
      obtain ⟨ado, capo, hue⟩ := hTu.val
      rw [← hp] at hue
      subst hue
      have hown := hTu.own
      have hnG : ∀ g, (Value.slice ado p capo).ownBlock = some g → g < wr.heap.size ∧ g ≠ G := fun g hg => by
       obtain ⟨-, h2, cs', h3⟩ := hown g hg
       refine ⟨h2, fun e => ?_⟩
       subst e
       unfold Bx at hb h3
       rw [hb] at h3
       simp only [Option.some.injEq, Obj.cells.injEq] at h3
       exact absurd h3.2.1 (by decide)
      have hge : ∀ g, (Value.slice ado p capo).ownBlock = some g → w.heap.size ≤ g := fun g hg => (hown g hg).1
      have hHNT : wr.heap.size ∉ (Value.slice ado p capo).ownBlock.toList ++ [G] := fun hm => by
       rcases List.mem_append.1 hm with h | h
       ·have := (hnG _ (by simpa using h)).1
        omega
       ·rw [List.mem_singleton] at h
        have := hb.lt
        omega
      have hGlt : G < w5.heap.size := by have := hb.lt; have := e5.size; omega
      have HNG := Lib.hid (And.intro hnG (And.intro hge hPu))
      have HNT := Lib.hid hHNT
      obtain ⟨pso, hpso, hls, hfr⟩ := (hTu.ext e5).ps
      have hpl : ((tsP pso).map tmv).length = p := by
       have := congrArg List.length hpso
       unfold lP at this
       unfold tsP
       rw [List.length_map] at this
       rw [List.length_map, List.length_map, this, hp]
      have HLS := Lib.hid hls
      have HPS := Lib.hid (And.intro hpso hfr)
      have HLN := Lib.hid hpl
      have hb5' := hb.ext e5
      have HB := Lib.hid hb5'
      have HCU : Hid (∀ wz, Ext w5 wz → wz.cell? ⟨G, cn, none⟩ = some (.slice ado p capo)) := Lib.hid fun wz hz => by
       rw [(hb5'.ext hz).cell, List.getElem?_toArray]
       exact hu
      have HT := Lib.hid (And.intro hl (And.intro (fun c u hu => (⟨(hT c u hu).1.ext e5, (hT c u hu).2⟩ : TO w.heap.size K w5 u _ ∧ _)) (And.intro hD hu)))
      have hcl : cn < cs.length := by omega
      have hsw5 := e5.size
      clear hb hl hT hD hu hTu hPu hp hown hnG hge hHNT hpso hls hfr hpl hb5'
      go_wp2_with fail
      rw [← hw5]
      clear hw5 hc0 hc1 hc2 hc3
      refine wp_region_hand ((Value.slice ado p capo).ownBlock) G 13 15 (fun v b => ApV w.heap.size w5.heap.size p #[.int .i64 (i : Int), .bool b', .slice a1' n1' c1', .slice a2' n2' c2'] ((tsP pso).map tmv) (.slice ado p capo) v b) (fun u b => Bx 107 b G (cs.set cn u).toArray) [PP.val (.slice (some ⟨G, 0, none⟩) M M), PP.val (.pointer (some ⟨wr.heap.size, 0, none⟩)), PP.val (.int .i64 (cn : Int)), PP.val (.slice (some ⟨G, 0, none⟩) M M), PP.val (.pointer (some ⟨wr.heap.size, 0, none⟩)), PP.val (.int .i64 (cn : Int)), PP.val (.pointer (some ⟨G, cn, none⟩)), PP.val (.slice ado p capo), PP.val (.int .i64 (i : Int)), PP.val (.pointer (some ⟨wr.heap.size, 1, none⟩)), PP.val (.agg #[.bool b', .slice a1' n1' c1', .slice a2' n2' c2']), PP.val (.agg #[.int .i64 (i : Int), .bool b', .slice a1' n1' c1', .slice a2' n2' c2']), PP.oneV #[.int .i64 (i : Int), .bool b', .slice a1' n1' c1', .slice a2' n2' c2'], PP.any, PP.val (.pointer (some ⟨G, cn, none⟩)), PP.any] [] [13, 12, 11, 10, 9, 8, 7, 6, 5, 4, 3] (by kernel_rfl) (by kernel_rfl) (fun f => (by simp only [fillR, fillL, List.setIfInBounds_toArray, List.set_cons_succ, List.set_cons_zero, Nat.reduceAdd]; rfl)) (by decide) (fun g hg => ⟨by have := (HNG.out.1 g hg).1; omega, (HNG.out.1 g hg).2⟩) (hGlt) (fun u w1 w2 h hp => hp.ext h) (fun u w1 w2 h hp => hp.chg h (fun g hg => (HNG.out.1 g hg).2) hGlt) (fun u w1 w2 h hp => hp.ext h) (by intro p hp; simp only [List.mem_cons, List.not_mem_nil, or_false] at hp; rcases hp with rfl | rfl | rfl | rfl | rfl | rfl | rfl | rfl | rfl | rfl | rfl | rfl | rfl | rfl | rfl | rfl <;> rfl) (fun _ _ => trivial) ?_ ?_ (by decide) (by decide)
      ·refine ⟨?o0, ?o1, ?o2, ?o3, ?o4, ?o5, ?o6, ?o7, ?o8, ?o9, ?o10, ?o11, ?o12, ?o13, ?o14, ?o15, trivial⟩
       case o0 =>
        intro f w7 hG hp hl
        have hS : w5.heap.size ≤ w7.heap.size := hG.2.2.2.1
        simp only [OpGoal]
        go_simp
        exact ⟨_, rfl, Ext.refl _, rfl⟩
       case o1 =>
        intro f w7 hG hp hl
        have hS : w5.heap.size ≤ w7.heap.size := hG.2.2.2.1
        simp only [OpGoal]
        go_simp
        exact ⟨_, rfl, Ext.refl _, rfl⟩
       case o2 =>
        intro f w7 hG hp hl
        have hS : w5.heap.size ≤ w7.heap.size := hG.2.2.2.1
        have q38 : f 1 = .pointer (some ⟨wr.heap.size, 0, none⟩) := tellO hp 0 1 rfl rfl
        have hcell := (b5.chgS hG HNT.out).cell 0
        simp only [OpGoal]
        go_simp
        exact ⟨_, rfl, Ext.refl _, rfl⟩
       case o3 =>
        intro f w7 hG hp hl
        have hE : Ext w5 w7 := hG
        have hS := hE.size
        simp only [OpGoal]
        go_simp
        exact ⟨_, rfl, Ext.refl _, rfl⟩
       case o4 =>
        intro f w7 hG hp hl
        have hE : Ext w5 w7 := hG
        have hS := hE.size
        simp only [OpGoal]
        go_simp
        exact ⟨_, rfl, Ext.refl _, rfl⟩
       case o5 =>
        intro f w7 hG hp hl
        have hE : Ext w5 w7 := hG
        have hS := hE.size
        have q41 : f 4 = .pointer (some ⟨wr.heap.size, 0, none⟩) := tellO hp 0 4 rfl rfl
        have hcell := (b5.ext hE).cell 0
        simp only [OpGoal]
        go_simp
        exact ⟨_, rfl, Ext.refl _, rfl⟩
       case o6 =>
        intro f w7 hG hp hl
        have hE : Ext w5 w7 := hG
        have hS := hE.size
        have q40 : f 3 = .slice (some ⟨G, 0, none⟩) M M := tellO hp 0 3 rfl rfl
        have q42 : f 5 = .int .i64 (cn : Int) := tellO hp 1 5 rfl rfl
        simp only [OpGoal]
        go_simp
        exact ⟨_, rfl, Ext.refl _, rfl⟩
       case o7 =>
        intro f w7 hG hp hl
        have hE : Ext w5 w7 := hG
        have hS := hE.size
        have q43 : f 6 = .pointer (some ⟨G, cn, none⟩) := tellO hp 0 6 rfl rfl
        have hcell := HCU.out _ hE
        simp only [OpGoal]
        go_simp
        exact ⟨_, rfl, Ext.refl _, rfl⟩
       case o8 =>
        intro f w7 hG hp hl
        have hE : Ext w5 w7 := hG
        have hS := hE.size
        simp only [OpGoal]
        go_simp
        exact ⟨_, rfl, Ext.refl _, rfl⟩
       case o9 =>
        intro f w7 hG hp hl
        have hE : Ext w5 w7 := hG
        have hS := hE.size
        simp only [OpGoal]
        go_simp
        exact ⟨_, rfl, Ext.refl _, rfl⟩
       case o10 =>
        intro f w7 hG hp hl
        have hE : Ext w5 w7 := hG
        have hS := hE.size
        have q46 : f 9 = .pointer (some ⟨wr.heap.size, 1, none⟩) := tellO hp 0 9 rfl rfl
        have hbx := b5.ext hE
        have hcell0 := hbx.cell 0
        have hcell1 := hbx.cell 1
        have hcell2 := hbx.cell 2
        have hcell3 := hbx.cell 3
        simp only [OpGoal]
        go_simp
        exact ⟨_, rfl, Ext.refl _, rfl⟩
       case o11 =>
        intro f w7 hG hp hl
        have hE : Ext w5 w7 := hG
        have hS := hE.size
        have q45 : f 8 = .int .i64 (i : Int) := tellO hp 0 8 rfl rfl
        have q47 : f 10 = .agg #[.bool b', .slice a1' n1' c1', .slice a2' n2' c2'] := tellO hp 1 10 rfl rfl
        simp only [OpGoal]
        go_simp
        exact ⟨_, rfl, Ext.refl _, rfl⟩
       case o12 =>
        intro f w7 hG hp hl
        have hE : Ext w5 w7 := hG
        have hS := hE.size
        have q48 : f 11 = .agg #[.int .i64 (i : Int), .bool b', .slice a1' n1' c1', .slice a2' n2' c2'] := tellO hp 0 11 rfl rfl
        change OpGoal _ _ _ f w7 Ext _
        exact og_buildSlice (P := Try.prog) 107 106 1 4 _ [.agg #[.int .i64 (i : Int), .bool b', .slice a1' n1' c1', .slice a2' n2' c2']] rfl rfl Try.underlying107 (by kernel_rfl) (by kernel_rfl) (by simp only [Act.eval]; exact congrArg (fun z => [(0, z)]) q48) rfl (by omega) (by omega) (by omega) (StrN.one rfl (all4V rfl rfl rfl rfl)).size (fun w' he hb => ⟨_, hS, rfl, hb⟩)
       case o13 =>
        intro f w7 hG hp hl
        have hE : Ext w5 w7 := hG
        have hS := hE.size
        have q44 : f 7 = .slice ado p capo := tellO hp 0 7 rfl rfl
        have q49 := tellO hp 1 12 rfl rfl
        have qL : f 7 = .slice ado p capo := tellO hp 0 7 rfl rfl
        obtain ⟨gx, hgx, hvx, hbx⟩ := tellO hp 1 12 rfl rfl
        change OpGoal _ _ _ f w7 (fun a b => a.grownBy b _) _
        refine og_append (P := Try.prog) _ _ 107 rfl rfl w.heap.size 106 4 64 Try.underlying107 (by kernel_rfl) (by kernel_rfl) (by omega) (.slice ado p capo) p (flatS ((tsP pso).map tmv)) qL (by have := (HLS.out.ext hE).2; rw [HLN.out] at this; exact this) ⟨gx, 0, none⟩ 1 1 [.int .i64 (i : Int), .bool b', .slice a1' n1' c1', .slice a2' n2' c2'] hvx rfl (fun j u hj => by rw [addr_add, Nat.zero_add, hbx.cell]; simpa using hj) (by intro u hu; simp at hu; rcases hu with rfl | rfl | rfl | rfl <;> rfl) (by omega) (by unfold maxLen; omega) (by omega) (by have := hE.size; omega) (fun v' w' h1 h2 h3 => ⟨h2, ap_finV HLN.out (strN_tmv _) rfl (all4V rfl rfl rfl rfl) h1 h3 hE.size⟩)
       case o14 =>
        intro f w7 hG hp hl
        have hS : w5.heap.size ≤ w7.heap.size := hG.2.2.2.1
        have q37 : f 0 = .slice (some ⟨G, 0, none⟩) M M := tellO hp 0 0 rfl rfl
        have q39 : f 2 = .int .i64 (cn : Int) := tellO hp 1 2 rfl rfl
        simp only [OpGoal]
        go_simp
        exact ⟨_, rfl, Ext.refl _, rfl⟩
       case o15 =>
        intro f w7 hG hp hl
        have hS : w5.heap.size ≤ w7.heap.size := hG.2.2.2.1
        have q51 : f 14 = .pointer (some ⟨G, cn, none⟩) := tellO hp 0 14 rfl rfl
        have hf13 := tellOS hp 1 rfl
        obtain ⟨gz, capz, hvz, -⟩ := hf13
        change OpGoal _ _ _ f w7 (Chg G) (fun (_ : Value) w2 => Bx 107 w2 G (cs.set cn (f 13)).toArray)
        exact og_store1 (P := Try.prog) G cn 107 _ cs _ _ _ _ _ rfl rfl q51 hvz (by kernel_rfl) (HB.out.chgS hG (fun hm => (HNG.out.1 G (by simpa using hm)).2 rfl)) hcl (fun w' h _ => by rw [hvz]; exact h)
      ·intro f w7 hC hF1 hH1 hp
       clear hp
       have hput := TrC.put (P := fun g => g < wo.heap.size ∨ w6.heap.size ≤ g) hB (by omega) HB.out HT.out.1 HT.out.2.1 (fun g hg => .inr (by omega)) HT.out.2.2.1 HT.out.2.2.2 HPS.out.1 HPS.out.2 ((HFR.out.1.mono (by omega)).ext e5) HFR.out.2 hC hF1 hH1
       have HPUT : Hid (TrC w.heap.size G K M (fun g => g < wo.heap.size ∨ w6.heap.size ≤ g) (fun c => colP rows i (c : Int) ++ pickV ((mkV r).take (j + 1)) (i : Int) (c : Int)) w7) := Lib.hid (hput.congr fun d _ => by
        rw [HX.out.2, pick_snoc]
        by_cases hd : d = cn
        ·rw [if_pos hd, if_pos (by omega), hd, List.append_assoc]
        ·rw [if_neg hd, if_neg (by omega), List.append_nil])
       have hbs : ∀ g ∈ (Value.slice ado p capo).ownBlock.toList ++ [G], (w.heap.size ≤ g ∧ (g < wo.heap.size ∨ w6.heap.size ≤ g)) ∧ ∃ t cs', Bx t w5 g cs' ∧ t ≠ 88 := fun g hm => by
        rcases List.mem_append.1 hm with h | h
        ·have h' : (Value.slice ado p capo).ownBlock = some g := by simpa using h
         obtain ⟨-, -, cs', h3⟩ := ((HT.out.2.1 cn _ HT.out.2.2.2).1.own g h')
         exact ⟨⟨HNG.out.2.1 g h', HNG.out.2.2 g h'⟩, _, cs', h3, by decide⟩
        ·rw [List.mem_singleton] at h
         subst h
         exact ⟨⟨hB, .inl hGo⟩, _, _, HB.out, by decide⟩
       have hE7 : Ext w w7 := (hEw.trans e5).stepS hC fun g hm => (hbs g hm).1.1
       have HM7 := Lib.hid ((hmid.trans (e5.mid (by omega))).trans (hC.mid (by omega) fun g hm => (hbs g hm).1.2))
       have HK7 := Lib.hid ((HS.out.2.2.1.trans e5.keep).trans (keep_of hC fun g hm => (hbs g hm).2))
       have HB7 : Hid (∀ x ∈ (mkV r).take (j + 1), x.1 < (M : Int)) := Lib.hid fun x hx => by
        rw [HX.out.2] at hx
        rcases List.mem_append.1 hx with h | h
        ·exact HS.out.2.2.2 x h
        ·rw [List.mem_singleton] at h
         subst h
         exact hcM'
       clear hput hbs hF1 hH1 hmid
       go_wp2
       go_roundw
       case rel => exact ⟨j + 1, by omega, congrArg (Value.int .i64) (by omega), Lib.hid ⟨HPUT.out, HM7.out, HK7.out, HB7.out⟩, hE7⟩
       case measure => simp [intOf]; omega
end Go.Proofs.Ytdmjgjcljbogiaa
/-
 The laws' examples of matrices; the unit matrix.
-/
namespace Go.Proofs.Ytdmjgjcljbogiaa
set_option maxRecDepth 100000
set_option maxHeartbeats 1000000
open Go.RowKit
set_option linter.unusedVariables false
set_option linter.unusedSimpArgs false
theorem whole6_calls (n : Int) (w : World) (h0 : -9223372036854775808 ≤ n) (h1 : n ≤ 9223372036854775807) :
  Calls Try.prog 88 #[.int .i64 n] w fun e w' => ∃ v', e = .returned v' ∧ FrQ w.heap.size w' v' (n : Rat) ∧ Ext w w' := by
 have sn := szD_int n
 have tn := szT_small (z := n) (by omega)
 go_enter Try.func88, Try.ntmps88
 obtain ⟨w1, hw1, e1, b1, s1⟩ := alloc1 w #[.bool false, .slice none 0 0, .slice none 0 0] 28
 go_wp2_with fail
 rw [← hw1]
 refine (rqsmall3_calls n _ h0 h1).mono ?_
 rintro e w2 ⟨v2, rfl, q2, e2⟩
 go_wp2_with fail
 refine (rqto3_calls _ (n : Rat) _ q2.cq (by omega)).mono ?_
 rintro e w5 ⟨v5, rfl, q5, e5⟩
 obtain ⟨s', t', rfl, hn, hm⟩ := q5
 obtain ⟨ad5, cap5, rfl⟩ := hn.slice
 obtain ⟨ad6, cap6, rfl⟩ := hm.slice
 have Hn5 := Lib.hid hn
 have Hm5 := Lib.hid hm
 have E25 := e2.trans e5
 have hsz := e2.size
 clear hn hm
 have hb := b1.ext E25
 have hc0 := hb.cell 0
 have hc1 := hb.cell 1
 have hc2 := hb.cell 2
 have hf0 := hb.free 0
 have hf1 := hb.free 1
 have hf2 := hb.free 2
 go_wp2
 refine ret_box 2 28 w.heap.size 28 _ _ (by kernel_rfl) rfl (((hb.set 0 _).set 1 _).set 2 _) Try.underlying28 rfl (by kernel_rfl) rfl ?_
 exact ⟨_, rfl, ⟨_, _, rfl, (Hn5.out.chg (Chg.trans (Chg.trans (Chg.setCell _ w.heap.size 0 _) (Chg.setCell _ w.heap.size 1 _)) (Chg.setCell _ w.heap.size 2 _)) (by omega)).mono (by omega), (Hm5.out.chg (Chg.trans (Chg.trans (Chg.setCell _ w.heap.size 0 _) (Chg.setCell _ w.heap.size 1 _)) (Chg.setCell _ w.heap.size 2 _)) (by omega)).mono (by omega)⟩, (e1.trans E25).step (Chg.trans (Chg.trans (Chg.setCell _ w.heap.size 0 _) (Chg.setCell _ w.heap.size 1 _)) (Chg.setCell _ w.heap.size 2 _)) (by omega)⟩
theorem to_new {B k g N : Nat} {w : World} (ps : Ps) (hb : Bx 106 w g (flatS ((tsP ps).map tmv)).toArray) (hn : N = ps.length) (hB : B ≤ g) (hN : N ≤ 9223372036854775807) (hR : ∀ p ∈ ps, FrQ B w (ratv p.1) p.2 ∧ szQ p.2 ≤ k) : TO B k w (.slice (some ⟨g, 0, Option.none⟩) N N) (lP ps) := by
 have hl : ((tsP ps).map tmv).length = N := by rw [hn]; unfold tsP; simp
 have := LS.of_hold (e := 106) (n := 4) (B := B) (w := w) (vs := (tsP ps).map tmv) (g := g) (cap := N) (rest := []) (strN_tmv _) hB (by omega) hN (by rw [hl]; simp) (by rw [List.append_nil]; exact hb)
 rw [hl] at this
 exact TO.of_ps this hR
theorem mo_new {B k g N : Nat} {w : World} (vs : List Value) (rows : List (List (Int × Rat))) (hb : Bx 107 w g vs.toArray) (hn : N = vs.length) (hr : N = rows.length) (hB : B ≤ g) (hN : N ≤ 1000000) (hR : ∀ (i : Nat) (u : Value) (y : List (Int × Rat)), vs[i]? = some u → rows[i]? = some y → TO B k w u y) : MO B k w (.slice (some ⟨g, 0, Option.none⟩) N N) rows := by
 subst hn
 exact ⟨vs, ⟨(Nat.mul_one _).symm, .inr ⟨g, vs.length, vs.toArray, rfl, hB, hb, Nat.le_refl _, by unfold maxLen; omega, by simp, by simp⟩⟩, hr, hR⟩
theorem ol_new {B k g N : Nat} {w : World} (vs : List Value) (qs : List Rat) (h5 : StrN 3 vs) (hb : Bx 28 w g (flatS vs).toArray) (hn : N = vs.length) (hq : N = qs.length) (hB : B ≤ g) (hN : N ≤ 9223372036854775807) (hR : ∀ (i : Nat) (u : Value) (y : Rat), vs[i]? = some u → qs[i]? = some y → FrK B k w u y) : OL 28 3 B (FrK B k) w (.slice (some ⟨g, 0, Option.none⟩) N N) qs := by
 have := LS.of_hold (e := 28) (n := 3) (B := B) (w := w) (vs := vs) (g := g) (cap := N) (rest := []) h5 hB (by omega) hN (by rw [hn]; simp) (by rw [List.append_nil]; exact hb)
 rw [← hn] at this
 exact ⟨vs, this, by omega, hR⟩
theorem ps_one {p : TmC × Rat → Prop} {a : TmC × Rat} (h : p a) : ∀ x ∈ [a], p x := fun x hx => by rw [List.mem_singleton] at hx; rw [hx]; exact h
theorem ps_two {p : TmC × Rat → Prop} {a b : TmC × Rat} (h : p a) (h2 : p b) : ∀ x ∈ [a, b], p x := fun x hx => by
 simp only [List.mem_cons, List.not_mem_nil, or_false] at hx
 rcases hx with rfl | rfl
 ·exact h
 ·exact h2
theorem get_two {α β : Type} {R : α → β → Prop} {a b : α} {x y : β} (h : R a x) (h2 : R b y) : ∀ (i : Nat) (u : α) (z : β), [a, b][i]? = some u → [x, y][i]? = some z → R u z := fun i u z hu hz => by
 match i, hu, hz with
 | 0, hu, hz => cases hu; cases hz; exact h
 | 1, hu, hz => cases hu; cases hz; exact h2
 | i + 2, hu, hz => simp at hu
def exM : List (List (Int × Rat)) := [[(0, ((1 : Int) : Rat)), (1, ((2 : Int) : Rat))], [(1, ((3 : Int) : Rat))]]
def exT : List (List (Int × Rat)) := [[(0, ((1 : Int) : Rat))], [(0, ((2 : Int) : Rat)), (1, ((3 : Int) : Rat))]]
theorem exM_ok : trOk exM 2 = true := by decide +kernel
theorem exM_trans : transV exM 2 = exT := by decide +kernel
theorem exM_times : timesM exM [((1 : Int) : Rat), ((1 : Int) : Rat)] = [((3 : Int) : Rat), ((3 : Int) : Rat)] := by decide +kernel
theorem exM_len : ∀ r ∈ exM, r.length ≤ 2 := by decide
theorem strN_two {b1 b2 : Bool} {a1 a2 a3 a4 : Option Addr} {n1 n2 n3 n4 c1 c2 c3 c4 : Nat} : StrN 3 [.agg #[.bool b1, .slice a1 n1 c1, .slice a2 n2 c2], .agg #[.bool b2, .slice a3 n3 c3, .slice a4 n4 c4]] := by
 intro v hv
 simp only [List.mem_cons, List.not_mem_nil, or_false] at hv
 rcases hv with rfl | rfl
 ·exact ⟨_, rfl, rfl, all3 rfl rfl rfl⟩
 ·exact ⟨_, rfl, rfl, all3 rfl rfl rfl⟩
set_option maxHeartbeats 8000000 in
theorem speaks6_calls (w : World) : Calls Try.prog 52 #[] w fun e w' => e = .returned (.bool true) ∧ Ext w w' := by
 have lim : (1000 : Nat) ≤ LIM := by rw [LIM_eq]; omega
 have z1 : szQ ((1 : Int) : Rat) ≤ 1 := by decide +kernel
 have z2 : szQ ((2 : Int) : Rat) ≤ 1 := by decide +kernel
 have z3 : szQ ((3 : Int) : Rat) ≤ 1 := by decide +kernel
 go_enter Try.func52, Try.ntmps52
 go_wp2_with fail
 refine (whole6_calls 1 _ (by omega) (by omega)).mono ?_
 rintro e w2 ⟨v2, rfl, q2, e2⟩
 obtain ⟨b2, a2, l2, k2, a2', l2', k2', rfl, q2⟩ := q2.opn
 go_wp2_with fail
 refine (whole6_calls 2 _ (by omega) (by omega)).mono ?_
 rintro e w3 ⟨v3, rfl, q3, e3⟩
 obtain ⟨b3, a3, l3, k3, a3', l3', k3', rfl, q3⟩ := q3.opn
 obtain ⟨w4, hw4, e4, bx4, s4⟩ := alloc1 w3 #[.int .i64 0, .bool b2, .slice a2 l2 k2, .slice a2' l2' k2', .int .i64 1, .bool b3, .slice a3 l3 k3, .slice a3' l3' k3'] 106
 have T4 : TO 0 1 w4 (.slice (some ⟨w3.heap.size, 0, none⟩) 2 2) [(0, ((1 : Int) : Rat)), (1, ((2 : Int) : Rat))] := to_new [(⟨0, b2, a2, l2, k2, a2', l2', k2'⟩, ((1 : Int) : Rat)), (⟨1, b3, a3, l3, k3, a3', l3', k3'⟩, ((2 : Int) : Rat))] bx4 rfl (Nat.zero_le _) (by omega) (ps_two ⟨(q2.ext (e3.trans e4)).mono (Nat.zero_le _), z1⟩ ⟨(q3.ext e4).mono (Nat.zero_le _), z2⟩)
 have E4 := (e2.trans e3).trans e4
 clear q2 q3 e2 e3 e4 bx4
 go_wp2_with fail
 rw [← hw4]
 refine (whole6_calls 3 _ (by omega) (by omega)).mono ?_
 rintro e w5 ⟨v5, rfl, q5, e5⟩
 obtain ⟨b5, a5, l5, k5, a5', l5', k5', rfl, q5⟩ := q5.opn
 obtain ⟨w6, hw6, e6, bx6, s6⟩ := alloc1 w5 #[.int .i64 1, .bool b5, .slice a5 l5 k5, .slice a5' l5' k5'] 106
 have T6 : TO 0 1 w6 (.slice (some ⟨w5.heap.size, 0, none⟩) 1 1) [(1, ((3 : Int) : Rat))] := to_new [(⟨1, b5, a5, l5, k5, a5', l5', k5'⟩, ((3 : Int) : Rat))] bx6 rfl (Nat.zero_le _) (by omega) (ps_one ⟨(q5.ext e6).mono (Nat.zero_le _), z3⟩)
 obtain ⟨w7, hw7, e7, bx7, s7⟩ := alloc1 w6 #[.slice (some ⟨w3.heap.size, 0, none⟩) 2 2, .slice (some ⟨w5.heap.size, 0, none⟩) 1 1] 107
 have M7 : MO 0 1 w7 (.slice (some ⟨w6.heap.size, 0, none⟩) 2 2) exM := mo_new [.slice (some ⟨w3.heap.size, 0, none⟩) 2 2, .slice (some ⟨w5.heap.size, 0, none⟩) 1 1] exM bx7 rfl rfl (Nat.zero_le _) (by omega) (get_two (T4.ext ((e5.trans e6).trans e7)) (T6.ext e7))
 have E7 := ((E4.trans e5).trans e6).trans e7
 have HM7 := Lib.hid M7
 have hw67 : w6.heap.size = w5.heap.size + 1 := s6
 rw [hw6] at hw7
 rw [hw67] at HM7
 clear q5 e5 e6 e7 bx6 bx7 T4 T6 M7 hw4 E4 s6 s4 s7 hw67 hw6
 go_wp2_with fail
 rw [← hw7]
 refine (transpose_calls 1 2 _ 2 exM w7 (HM7.out.ml (by omega)) exM_len (by omega) (by decide) (by omega)).mono ?_
 rintro e w8 ⟨v8, rfl, r8, -, e8⟩
 have hz : scE (trOk exM 2) = 0 := by rw [exM_ok]; rfl
 rw [hz]
 have r8' := r8 exM_ok
 rw [show (2 : Int).toNat = 2 from rfl, exM_trans] at r8'
 have H8 := Lib.hid r8'
 have HM8 := Lib.hid (HM7.out.ext e8)
 have E8 := E7.trans e8
 clear r8 r8' hz hw7 HM7 e8
 go_wp2_with fail
 refine (whole6_calls 1 _ (by omega) (by omega)).mono ?_
 rintro e w9 ⟨v9, rfl, q9, e9⟩
 obtain ⟨b9, a9, l9, k9, a9', l9', k9', rfl, q9⟩ := q9.opn
 go_wp2_with fail
 refine (whole6_calls 1 _ (by omega) (by omega)).mono ?_
 rintro e w10 ⟨v10, rfl, q10, e10⟩
 obtain ⟨b10, a10, l10, k10, a10', l10', k10', rfl, q10⟩ := q10.opn
 obtain ⟨w11, hw11, e11, bx11, s11⟩ := alloc1 w10 #[.bool b9, .slice a9 l9 k9, .slice a9' l9' k9', .bool b10, .slice a10 l10 k10, .slice a10' l10' k10'] 28
 have Q11 := Lib.hid (ol_new (B := 0) (k := 1) (N := 2) [.agg #[.bool b9, .slice a9 l9 k9, .slice a9' l9' k9'], .agg #[.bool b10, .slice a10 l10 k10, .slice a10' l10' k10']] [((1 : Int) : Rat), ((1 : Int) : Rat)] strN_two bx11 rfl rfl (Nat.zero_le _) (by omega) (get_two (R := FrK 0 1 w11) ⟨(q9.ext (e10.trans e11)).mono (Nat.zero_le _), z1⟩ ⟨(q10.ext e11).mono (Nat.zero_le _), z1⟩))
 have E11 := ((E8.trans e9).trans e10).trans e11
 have HM11 := Lib.hid (HM8.out.ext ((e9.trans e10).trans e11))
 have H11 := Lib.hid (H8.out.ext ((e9.trans e10).trans e11))
 clear q9 q10 e9 e10 e11 bx11 s11 HM8 H8 E8
 go_wp2_with fail
 rw [← hw11]
 refine (times_calls 1 1 2 _ _ exM _ w11 (HM11.out.ml (by omega)) (OL.ql Q11.out (by omega)) exM_len (by decide) (by omega)).mono ?_
 rintro e w12 ⟨v12, rfl, r12, e12⟩
 rw [exM_times] at r12
 have R12 := Lib.hid r12
 have E12 := E11.trans e12
 have H12 := Lib.hid (H11.out.ext e12)
 clear r12 Q11 HM11 H11 hw11 E11 e12
 go_wp2_with fail
 refine (whole6_calls 3 _ (by omega) (by omega)).mono ?_
 rintro e w13 ⟨v13, rfl, q13, e13⟩
 obtain ⟨b13, a13, l13, k13, a13', l13', k13', rfl, q13⟩ := q13.opn
 go_wp2_with fail
 refine (whole6_calls 3 _ (by omega) (by omega)).mono ?_
 rintro e w14 ⟨v14, rfl, q14, e14⟩
 obtain ⟨b14, a14, l14, k14, a14', l14', k14', rfl, q14⟩ := q14.opn
 obtain ⟨w15, hw15, e15, bx15, s15⟩ := alloc1 w14 #[.bool b13, .slice a13 l13 k13, .slice a13' l13' k13', .bool b14, .slice a14 l14 k14, .slice a14' l14' k14'] 28
 have Q15 := Lib.hid (ol_new (B := 0) (k := 1) (N := 2) [.agg #[.bool b13, .slice a13 l13 k13, .slice a13' l13' k13'], .agg #[.bool b14, .slice a14 l14 k14, .slice a14' l14' k14']] [((3 : Int) : Rat), ((3 : Int) : Rat)] strN_two bx15 rfl rfl (Nat.zero_le _) (by omega) (get_two (R := FrK 0 1 w15) ⟨(q13.ext (e14.trans e15)).mono (Nat.zero_le _), z3⟩ ⟨(q14.ext e15).mono (Nat.zero_le _), z3⟩))
 have hx := (e13.trans e14).trans e15
 have R15 := Lib.hid (OL.ext R12.out hx fun _ _ h => FrK.ext h hx)
 have H15 := Lib.hid (H12.out.ext hx)
 have E15 := E12.trans hx
 clear q13 q14 e13 e14 e15 bx15 s15 hx R12 H12 E12
 go_wp2_with fail
 rw [← hw15]
 refine (sameAll_true _ _ _ w15 (OL.slq R15.out (by omega)) (OL.slq Q15.out (by omega))).mono ?_
 rintro e w16 ⟨rfl, e16⟩
 have E16 := E15.trans e16
 have H16 := Lib.hid (H15.out.ext e16)
 clear Q15 R15 H15 E15 hw15 e16
 go_wp2_with fail
 refine (whole6_calls 1 _ (by omega) (by omega)).mono ?_
 rintro e w17 ⟨v17, rfl, q17, e17⟩
 obtain ⟨b17, a17, l17, k17, a17', l17', k17', rfl, q17⟩ := q17.opn
 obtain ⟨w18, hw18, e18, bx18, s18⟩ := alloc1 w17 #[.int .i64 0, .bool b17, .slice a17 l17 k17, .slice a17' l17' k17'] 106
 have T18 : TO 0 1 w18 (.slice (some ⟨w17.heap.size, 0, none⟩) 1 1) [(0, ((1 : Int) : Rat))] := to_new [(⟨0, b17, a17, l17, k17, a17', l17', k17'⟩, ((1 : Int) : Rat))] bx18 rfl (Nat.zero_le _) (by omega) (ps_one ⟨(q17.ext e18).mono (Nat.zero_le _), z1⟩)
 have E18 := (E16.trans e17).trans e18
 have H18 := Lib.hid (H16.out.ext (e17.trans e18))
 clear q17 e17 e18 bx18 s18 H16 E16
 go_wp2_with fail
 rw [← hw18]
 refine (whole6_calls 2 _ (by omega) (by omega)).mono ?_
 rintro e w19 ⟨v19, rfl, q19, e19⟩
 obtain ⟨b19, a19, l19, k19, a19', l19', k19', rfl, q19⟩ := q19.opn
 clear hw18
 go_wp2_with fail
 refine (whole6_calls 3 _ (by omega) (by omega)).mono ?_
 rintro e w20 ⟨v20, rfl, q20, e20⟩
 obtain ⟨b20, a20, l20, k20, a20', l20', k20', rfl, q20⟩ := q20.opn
 obtain ⟨w21, hw21, e21, bx21, s21⟩ := alloc1 w20 #[.int .i64 0, .bool b19, .slice a19 l19 k19, .slice a19' l19' k19', .int .i64 1, .bool b20, .slice a20 l20 k20, .slice a20' l20' k20'] 106
 have T21 : TO 0 1 w21 (.slice (some ⟨w20.heap.size, 0, none⟩) 2 2) [(0, ((2 : Int) : Rat)), (1, ((3 : Int) : Rat))] := to_new [(⟨0, b19, a19, l19, k19, a19', l19', k19'⟩, ((2 : Int) : Rat)), (⟨1, b20, a20, l20, k20, a20', l20', k20'⟩, ((3 : Int) : Rat))] bx21 rfl (Nat.zero_le _) (by omega) (ps_two ⟨(q19.ext (e20.trans e21)).mono (Nat.zero_le _), z2⟩ ⟨(q20.ext e21).mono (Nat.zero_le _), z3⟩)
 obtain ⟨w22, hw22, e22, bx22, s22⟩ := alloc1 w21 #[.slice (some ⟨w17.heap.size, 0, none⟩) 1 1, .slice (some ⟨w20.heap.size, 0, none⟩) 2 2] 107
 have hx := ((e19.trans e20).trans e21).trans e22
 have M22 : MO 0 1 w22 (.slice (some ⟨w21.heap.size, 0, none⟩) 2 2) exT := mo_new [.slice (some ⟨w17.heap.size, 0, none⟩) 1 1, .slice (some ⟨w20.heap.size, 0, none⟩) 2 2] exT bx22 rfl rfl (Nat.zero_le _) (by omega) (get_two (T18.ext hx) (T21.ext e22))
 have HM22 := Lib.hid M22
 have hs21 : w21.heap.size = w20.heap.size + 1 := s21
 rw [hw21] at hw22
 rw [hs21] at HM22
 have E22 := E18.trans hx
 have H22 := Lib.hid (H18.out.ext hx)
 clear q19 q20 e19 e20 e21 e22 bx21 bx22 T18 T21 M22 H18 E18 hx s22 s21 hs21 hw21
 go_wp2_with fail
 rw [← hw22]
 refine (sameM_true _ _ _ w22 (H22.out.mle (by omega)) (HM22.out.mle (by omega))).mono ?_
 rintro e w23 ⟨rfl, e23⟩
 go_wp2
 go_ret
 exact ⟨rfl, E22.trans e23⟩
end Go.Proofs.Ytdmjgjcljbogiaa
/-
 Matrices, lists of whole numbers handed in to a law.
-/
namespace Go.Proofs.Ytdmjgjcljbogiaa
set_option maxRecDepth 100000
set_option maxHeartbeats 1000000
open Go.RowKit
open Go.ChangeShapes Go.WideShapes Go.ChangeAt
set_option linter.unusedVariables false
set_option linter.unusedSimpArgs false
theorem cellsTs : Try.prog.cellsOf 107 = 1 := by kernel_rfl
theorem bytesTs : Try.prog.bytesOf 107 = 24 := by kernel_rfl
section
variable {H : Type} {enc : TypeId × Value → H} {w : World} {base : Nat} {spare : Nat → Bool} {held : Bool}
theorem open_termsF {fuel : Nat} {cs : List Value} {x : DataW H × List MemPlace} (B : Nat) (hb : B ≤ 4611686018427387903) (hB : ∀ n ∈ x.1.weights Try.prog 107, n ≤ B) (hf : DataW.trod enc Try.prog w base spare held fuel 107 cs = some x) :
  ∃ v l, cs = [v] ∧ TLE w v l := by
 obtain ⟨v', ys, h1, h2, h3, -⟩ := open_structs (R := TmE) (F := fun _ _ => True) B Try.underlying107 cellsTm (by omega) (fun fuel cs x hl hw hx => by
  obtain ⟨c, b, s, t, xs, ys, rfl, wc, hL, hd, hL2, hd2, hB2⟩ := open_termC hx
  have hh := hB2 B hw
  have hE : RawE w (.agg #[.bool b, s, t]) (b, xs, ys) := ⟨⟨s, t, rfl, hL, hL2⟩, hd, hd2, by show xs.length + ys.length ≤ _; omega⟩
  have hL' := hL
  have hL2' := hL2
  obtain ⟨a1, c1, rfl, -⟩ := hL'
  obtain ⟨a2, c2, rfl, -⟩ := hL2'
  exact ⟨(c, b, xs, ys), ⟨b, a1, _, c1, a2, _, c2, rfl, hE⟩, trivial⟩) hB hf
 exact ⟨v', ys, h1, h2⟩
theorem open_matS {v : Value} {d : DataW H} {p : List MemPlace} {W0 : World} {b0 : Nat} (hv : Value.okWide Try.prog W0 .any b0 68 v) (h : DataW.Trod enc Try.prog w base spare held 68 v d p) (B : Nat) (hb : B ≤ 4611686018427387903) (hB : ∀ n ∈ d.weights Try.prog 68, n ≤ B) :
  ∃ l, MLE w v l ∧ l.length * Try.prog.bytesOf 107 ≤ B := by
 obtain ⟨a, n, c, rfl⟩ := okWide_slice Try.underlying68 hv
 obtain ⟨fuel, hf⟩ := h
 obtain ⟨v', ys, h1, h2, h3, -⟩ := open_ones (R := TLE) (F := fun _ _ => True) B Try.underlying68 cellsTs (fun fuel v x hw hx => by
  obtain ⟨v2, l, h1, h2⟩ := open_termsF B hb hw hx
  cases h1
  exact ⟨l, h2, trivial⟩) hB hf
 have hcs : (Value.slice a n c).cells.toList = [Value.slice a n c] := rfl
 rw [hcs] at h1
 cases h1
 exact ⟨ys, h2, h3⟩
end
end Go.Proofs.Ytdmjgjcljbogiaa
