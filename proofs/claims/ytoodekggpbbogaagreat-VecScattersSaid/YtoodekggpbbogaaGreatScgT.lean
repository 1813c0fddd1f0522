/-
  The documents' lists of numbers: great, copied, the same.
-/
import Derived.Test.YtoodekggpbbogaaGreatVrfT
import Derived.Test.YtoodekggpbbogaaGreatVfcT
import Derived.Laws.MakeOwn
import Derived.Test.YtoodekggpbbogaaGreatComT
namespace Go.Proofs.YtoodekggpbbogaaGreat
open Go.RowKit
set_option linter.unusedVariables false
set_option linter.unusedSimpArgs false

set_option maxRecDepth 100000 in
set_option maxHeartbeats 1000000 in
/-- Its numbers, as they are read. -/
theorem SLQ.ql {w : World} {u : Value} {l : List RE} (h : SLQ w u l) (k : Nat) (hk : 1 ≤ k) (hk2 : k ≤ LIM) (hl : ∀ e ∈ l, e.2.1.length + e.2.2.length ≤ k) : QL k w u (l.map ratE) := by
  obtain ⟨ad, cap, h1, h2, h3, h4⟩ := h
  refine ⟨ad, cap, by rw [List.length_map]; exact h1, by rw [List.length_map]; exact h2, h3, ?_⟩
  rcases h4 with h4 | ⟨g, off, h4, h5⟩
  · exact .inl (by rw [h4]; rfl)
  · refine .inr ⟨g, off, h4, fun i x hi => ?_⟩
    rw [List.getElem?_map] at hi
    cases he : l[i]? with
    | none => rw [he] at hi; cases hi
    | some e =>
      rw [he] at hi
      simp only [Option.map_some, Option.some.injEq] at hi
      subst hi
      obtain ⟨cs, k1, k2, k4⟩ := h5 i e he
      have := hl e (List.mem_of_getElem? he)
      exact ⟨cs, k1, k2, k4.1.isR k4.2.1 k4.2.2.1 k (by omega) (by omega) hk hk2⟩
set_option maxRecDepth 100000 in
set_option maxHeartbeats 1000000 in
theorem SLQ.dig {w : World} {u : Value} {l : List RE} (h : SLQ w u l) : ∀ e ∈ l, Dig W e.2.1 ∧ Dig W e.2.2 ∧ e.2.1.length + e.2.2.length ≤ 9223372036854775807 := by
  intro e he
  obtain ⟨i, hi, rfl⟩ := List.getElem_of_mem he
  obtain ⟨ad, m, cap, -, -, -, hat⟩ := h.at
  obtain ⟨g, off, -, b, a1, n1, c1, a2, n2, c2, -, -, hR⟩ := hat i _ (List.getElem?_eq_getElem hi)
  exact (hR w (Ext.refl w)).2.2.2.2

set_option maxRecDepth 100000 in
set_option maxHeartbeats 4000000 in
theorem greatAll_calls (v : Value) (l : List RE) (w : World) (hv : SLQ w v l) :
    Calls Tryz.prog 19 #[v] w fun e w' => e = .returned (.bool (greatE l)) ∧ Ext w w' := by
  obtain ⟨ad, n, cap, hnl, rfl, hn1, hat⟩ := hv.at
  have HV := Lib.hid hv
  have HN := Lib.hid hnl
  have HAT := Lib.hid hat
  clear hnl hat hv
  go_enter Tryz.func19, Tryz.ntmps19
  go_wp2_with fail
  go_loopw [3] (fun s wr => ∃ i : Nat, i ≤ n ∧ s = .int .i64 (i : Int) ∧ Hid (∀ e ∈ l.take i, wordsE e ≤ 6) ∧ Ext w wr) (fun s _ => ((n : Int) - intOf s).toNat)
  case atStart => exact ⟨0, Nat.zero_le _, rfl, Lib.hid (fun e he => by simp at he), Ext.refl _⟩
  case round =>
    obtain ⟨i, hi, rfl, hS, hE0⟩ := hrel
    rcases Nat.eq_or_lt_of_le hi with hin | hin
    · subst hin
      have hlt : ¬ ((i : Int) < (i : Int)) := by omega
      have hall : ∀ e ∈ l, wordsE e ≤ 6 := by have := hS.out; rwa [HN.out, List.take_length] at this
      have hG : greatE l = (decide (30 < i) || decide (18 < weightE l)) := by
        rw [greatE_rest hall, ← HN.out]
      have HG := Lib.hid hG
      have HALL := Lib.hid hall
      clear hG hall
      by_cases h30 : 30 < i
      · have h30' : (30 : Int) < (i : Int) := by omega
        have HR : Hid (greatE l = true) := Lib.hid (by rw [HG.out, decide_eq_true h30]; rfl)
        go_wp2
        go_ret
        exact ⟨by rw [HR.out] <;> rfl, hE0⟩
      · have h30' : ¬ (30 : Int) < (i : Int) := by omega
        have HR : Hid (greatE l = decide (18 < weightE l)) := Lib.hid (by rw [HG.out, decide_eq_false h30]; rfl)
        go_wp2_with fail
        refine (weight_calls _ l wr (HV.out.ext hE0) (by rw [← HN.out]; omega) HALL.out).mono ?_
        rintro e w2 ⟨rfl, e2⟩
        obtain ⟨p, hp⟩ : ∃ p, p = weightE l := ⟨_, rfl⟩
        rw [← hp] at HR ⊢
        clear hp
        by_cases h18 : 18 < p
        · have h18' : (18 : Int) < (p : Int) := by omega
          have HR2 : Hid (greatE l = true) := Lib.hid (by rw [HR.out, decide_eq_true h18])
          go_wp2
          go_ret
          exact ⟨by rw [HR2.out] <;> rfl, hE0.trans e2⟩
        · have h18' : ¬ (18 : Int) < (p : Int) := by omega
          have hd18 : decide ((18 : Int) < (p : Int)) = false := decide_eq_false h18'
          have HR2 : Hid (greatE l = false) := Lib.hid (by rw [HR.out, decide_eq_false h18])
          go_wp2
          go_ret
          exact ⟨by rw [HR2.out] <;> rfl, hE0.trans e2⟩
    · have hlt : (i : Int) < (n : Int) := by omega
      obtain ⟨⟨xb, xs, xt⟩, hx⟩ : ∃ x, l[i]? = some x := ⟨_, List.getElem?_eq_getElem (by rw [← HN.out]; exact hin)⟩
      obtain ⟨g, off, rfl, b, a1, n1, c1, a2, n2, c2, -, -, hcell⟩ := HAT.out i _ hx
      obtain ⟨hc0, hc1, hc2, hR⟩ := hcell wr hE0
      have HRX := Lib.hid hR
      have HX := Lib.hid hx
      obtain ⟨p, hp⟩ : ∃ p, p = xs.length + xt.length := ⟨_, rfl⟩
      have HP := Lib.hid hp
      obtain ⟨i1, hi1⟩ : ∃ i1, i1 = i + 1 := ⟨_, rfl⟩
      have hi1' : (i : Int) + 1 = (i1 : Int) := by omega
      have hi1n : i1 ≤ n := by omega
      have HI1 := Lib.hid hi1
      clear hcell hx hR hp hi1
      go_wp2_with fail
      refine (rqwords3_calls _ xb xs xt wr HRX.out.1 HRX.out.2.2.2).mono ?_
      rintro e w2 ⟨rfl, e2⟩
      rw [← HP.out]
      by_cases h6 : 6 < p
      · have h6' : (6 : Int) < (p : Int) := by omega
        have HR : Hid (greatE l = true) := Lib.hid (greatE_words (i := i) (e := (xb, xs, xt)) HX.out (by show 6 < xs.length + xt.length; rw [← HP.out]; exact h6))
        go_wp2
        go_ret
        exact ⟨by rw [HR.out] <;> rfl, hE0.trans e2⟩
      · have h6' : ¬ (6 : Int) < (p : Int) := by omega
        have hs : ∀ e ∈ l.take i1, wordsE e ≤ 6 := by
          rw [HI1.out, List.take_add_one, HX.out]
          intro e he
          rcases List.mem_append.1 he with he | he
          · exact hS.out e he
          · simp only [Option.toList_some, List.mem_singleton] at he
            subst he
            show xs.length + xt.length ≤ 6
            rw [← HP.out]
            omega
        have HS := Lib.hid hs
        clear hs
        go_wp2
        go_roundw
        case rel => exact ⟨i1, hi1n, rfl, HS, hE0.trans e2⟩
        case measure => have := HI1.out; simp [intOf]; omega

set_option maxRecDepth 100000 in
set_option maxHeartbeats 1000000 in
theorem emptyQ (w : World) : (Instr.buildSlice 44 0 #[]).run Tryz.prog w = .ok (.slice (some ⟨w.heap.size, 0, none⟩) 0 0) (w.alloc (.cells #[] 30)) := by kernel_rfl
/-- A number copied, in memory from block B on. -/
def FrE (B : Nat) (w : World) (v : Value) (e : RE) : Prop := FrR B w v e.1 e.2.1 e.2.2
set_option maxRecDepth 100000 in
set_option maxHeartbeats 1000000 in
theorem FrE.grow {B : Nat} {w w' : World} {v : Value} {e : RE} {lv : Value} {vs : List Value} (h : FrE B w v e) (hls : LS 30 3 B w lv vs) (hg : w.grownBy w' lv.ownBlock) : FrE B w' v e := by
  rcases hls.2.2 with ⟨h1, h2⟩ | ⟨g', cap', cur, h1, h2, h3, h4⟩
  · rw [h1] at hg
    exact FrR.ext h hg
  · rw [h1] at hg
    exact FrR.chgB h hg h3 (by decide)

set_option maxRecDepth 100000 in
set_option maxHeartbeats 4000000 in
theorem copyAll_calls (v : Value) (l : List RE) (w : World) (hv : SLQ w v l) (hn : l.length ≤ 1000) (hl : ∀ e ∈ l, wordsE e ≤ 6) :
    Calls Tryz.prog 20 #[v] w fun e w' => ∃ v', e = .returned v' ∧ SLQ w' v' l ∧ Ext w w' := by
  have HD := Lib.hid hv.dig
  obtain ⟨ad, n, cap, hnl, rfl, hn1, hat⟩ := hv.at
  rw [← hnl] at hn
  have HN := Lib.hid hnl
  have HAT := Lib.hid hat
  have HW := Lib.hid hl
  have eb := emptyQ
  clear hnl hat hv hl
  go_enter Tryz.func20, Tryz.ntmps20
  go_wp2_with fail
  go_loopw [3, 4] (fun s3 s4 wr => ∃ (i : Nat) (ado : Option Addr) (capo : Nat), i ≤ n ∧ s4 = .int .i64 (i : Int) ∧ s3 = .slice ado i capo ∧ Hid (OL 30 3 w.heap.size (FrE w.heap.size) wr (.slice ado i capo) (l.take i)) ∧ Ext w wr) (fun _ s4 _ => ((n : Int) - intOf s4).toNat)
  case atStart => exact ⟨0, some ⟨w.heap.size, 0, none⟩, 0, Nat.zero_le _, rfl, rfl, Lib.hid ⟨[], LS.empty _ _ _ _ (Nat.le_refl _), rfl, fun i u y h => by simp at h⟩, (Ext.refl _).alloc _⟩
  case round =>
    obtain ⟨i, ado, capo, hi, rfl, rfl, hS, hE0⟩ := hrel
    rcases Nat.eq_or_lt_of_le hi with hin | hin
    · subst hin
      have hlt : ¬ ((i : Int) < (i : Int)) := by omega
      have hT : SLQ wr (.slice ado i capo) l := by
        have := hS.out
        rw [show l.take i = l by rw [HN.out, List.take_length]] at this
        obtain ⟨vs, h1, h2, h3⟩ := this
        exact OL.sl (t := 30) (B := w.heap.size) ⟨vs, h1, h2, fun j u y hu hy => ⟨(h3 j u y hu hy).raw, HD.out y (List.mem_of_getElem? hy)⟩⟩ (by omega)
      have HT := Lib.hid hT
      clear hT
      go_wp2
      go_ret
      exact ⟨_, rfl, HT.out, hE0⟩
    · have hlt : (i : Int) < (n : Int) := by omega
      obtain ⟨⟨xb, xs, xt⟩, hx⟩ : ∃ x, l[i]? = some x := ⟨_, List.getElem?_eq_getElem (by rw [← HN.out]; exact hin)⟩
      obtain ⟨g, off, rfl, b, a1, n1, c1, a2, n2, c2, -, -, hcell⟩ := HAT.out i _ hx
      obtain ⟨hc0, hc1, hc2, hR⟩ := hcell wr hE0
      obtain ⟨vs, hls, hvl, hvs⟩ := hS.out
      have hvi : vs.length = i := by rw [hvl, List.length_take, ← HN.out]; omega
      have htk := take_next hx
      have hw6 : xs.length + xt.length ≤ 6 := HW.out _ (List.mem_of_getElem? hx)
      subst hvi
      have HTK := Lib.hid htk
      have HLS := Lib.hid hls
      have HV := Lib.hid (And.intro hvl hvs)
      have HRX := Lib.hid hR
      have hwr := hE0.size
      clear hcell hx hls hvl hvs htk hR hS
      go_wp2_with fail
      refine (rqcopy3_calls _ xb xs xt wr HRX.out.1 (by omega) (by omega)).mono ?_
      rintro e w6 ⟨v6, rfl, r6, e6⟩
      obtain ⟨a6, l6, k6, a6', l6', k6', rfl, r6⟩ := r6.opn
      have HR6 := Lib.hid (show FrE w.heap.size w6 _ (xb, xs, xt) from r6.mono hwr)
      have hs6 := e6.size
      clear r6 hc0 hc1 hc2
      go_wp2_with (first
        | (at_builtin; go_loud (refine wpList_append_LS rfl _ _ 44 rfl 30 3 56 w.heap.size Tryz.underlying44 (by kernel_rfl) (by kernel_rfl) (by omega) _ vs rfl (HLS.out.ext (e6.trans ((Ext.refl _).alloc _))) ⟨w6.heap.size, 0, none⟩ #[.bool xb, .slice a6 l6 k6, .slice a6' l6' k6'] rfl rfl (news_new _ _ _) (by kernel_rfl) (by omega) (by omega) (by rw [alloc_size]; omega) ?_); intro g' cap2' w7 hls7 hg7 hwh7 hlt7)
        | fail)
      go_roundw
      case rel =>
        have hA := (Ext.refl w6).alloc (.cells #[.bool xb, .slice a6 l6 k6, .slice a6' l6' k6'] 30)
        refine ⟨vs.length + 1, some ⟨g', 0, none⟩, cap2', by omega, by simp, rfl, Lib.hid ?_, ((hE0.trans e6).trans hA).stepG hg7 HLS.out.ge⟩
        rw [HTK.out]
        have hLA := HLS.out.ext (e6.trans hA)
        exact OL.app (w := w6.alloc (.cells #[.bool xb, .slice a6 l6 k6, .slice a6' l6' k6'] 30)) HV.out.1 (fun i u y h1 h2 => FrR.ext (HV.out.2 i u y h1 h2) (e6.trans hA)) hls7 (fun u y h => FrE.grow h hLA hg7) (FrE.grow (FrR.ext HR6.out hA) hLA hg7)
      case measure => simp [intOf]; omega

set_option maxRecDepth 100000 in
set_option maxHeartbeats 4000000 in
set_option maxRecDepth 100000 in
set_option maxHeartbeats 1000000 in
/-- Are two lists of numbers one, form and all? -/
theorem sameAll3_calls (v u : Value) (l m : List RE) (w : World) (hv : SLQ w v l) (hu : SLQ w u m) :
    Calls Tryz.prog 24 #[v, u] w fun e w' => e = .returned (.bool (decide (l = m))) ∧ Ext w w' := by
  obtain ⟨ad, n, cap, hn, rfl, hn1, hat⟩ := hv.at
  obtain ⟨ad2, n2, cap2, hm, rfl, hm1, hat2⟩ := hu.at
  have HN := Lib.hid hn
  have HM := Lib.hid hm
  have HAT := Lib.hid hat
  have HAT2 := Lib.hid hat2
  clear hn hm hat hat2 hv hu
  go_enter Tryz.func24, Tryz.ntmps24
  by_cases hnm : n = n2
  · subst hnm
    have hz : ¬ ((n : Int) ≠ (n : Int)) := by simp
    go_wp2_with fail
    go_loopw [5] (fun s wr => ∃ i : Nat, i ≤ n ∧ s = .int .i64 (i : Int) ∧ Hid (l.take i = m.take i) ∧ Ext w wr) (fun s _ => ((n : Int) - intOf s).toNat)
    case atStart => exact ⟨0, Nat.zero_le _, rfl, Lib.hid rfl, Ext.refl _⟩
    case round =>
      obtain ⟨i, hi, rfl, hT, hE0⟩ := hrel
      rcases Nat.eq_or_lt_of_le hi with hin | hin
      · subst hin
        have hlt : ¬ ((i : Int) < (i : Int)) := by omega
        have he : l = m := by have := hT.out; rwa [HN.out, List.take_length, ← HN.out, HM.out, List.take_length] at this
        have HR := Lib.hid (decide_eq_true he)
        clear he
        go_wp2
        go_ret
        exact ⟨by rw [HR.out] <;> rfl, hE0⟩
      · have hlt : (i : Int) < (n : Int) := by omega
        obtain ⟨⟨xb, xs, xt⟩, hx⟩ : ∃ x, l[i]? = some x := ⟨_, List.getElem?_eq_getElem (by rw [← HN.out]; exact hin)⟩
        obtain ⟨⟨yb, ys, yt⟩, hy⟩ : ∃ x, m[i]? = some x := ⟨_, List.getElem?_eq_getElem (by rw [← HM.out]; exact hin)⟩
        obtain ⟨g, off, rfl, b1, a1, n1, c1, a2, n2, c2, -, -, hc⟩ := HAT.out i _ hx
        obtain ⟨g', off', rfl, b1', a1', n1', c1', a2', n2', c2', -, -, hc'⟩ := HAT2.out i _ hy
        have HC3 : Hid (∀ wz, Ext w wz → ∀ (j : Nat) (v : Value), (#[.bool b1, .slice a1 n1 c1, .slice a2 n2 c2] : Array Value)[j]? = some v → wz.cell? ⟨g, off + i * 3 + j, none⟩ = some v) := Lib.hid fun wz hz j v hj => by
          obtain ⟨k1, k2, k3, -⟩ := hc wz hz
          match j, hj with
          | 0, hj => cases hj; exact k1
          | 1, hj => cases hj; exact k2
          | 2, hj => cases hj; exact k3
          | j + 3, hj => simp at hj
        have HC3' : Hid (∀ wz, Ext w wz → ∀ (j : Nat) (v : Value), (#[.bool b1', .slice a1' n1' c1', .slice a2' n2' c2'] : Array Value)[j]? = some v → wz.cell? ⟨g', off' + i * 3 + j, none⟩ = some v) := Lib.hid fun wz hz j v hj => by
          obtain ⟨k1, k2, k3, -⟩ := hc' wz hz
          match j, hj with
          | 0, hj => cases hj; exact k1
          | 1, hj => cases hj; exact k2
          | 2, hj => cases hj; exact k3
          | j + 3, hj => simp at hj
        have HR := Lib.hid (hc wr hE0).2.2.2
        have HR' := Lib.hid (hc' wr hE0).2.2.2
        have HXY := Lib.hid (And.intro hx hy)
        obtain ⟨s, hs⟩ : ∃ s : Bool, s = decide ((xb = yb ∧ xs = ys) ∧ xt = yt) := ⟨_, rfl⟩
        have HS := Lib.hid hs
        clear hc hc' hx hy hs
        go_wp2_with fail
        refine wp_region_puts [] [PP.val (.slice (some ⟨g, off, none⟩) n cap), PP.val (.int .i64 (i : Int)), PP.val (.pointer (some ⟨g, off + i * 3, none⟩)), PP.val (.agg #[.bool b1, .slice a1 n1 c1, .slice a2 n2 c2]), PP.val (.slice (some ⟨g', off', none⟩) n cap2), PP.val (.int .i64 (i : Int)), PP.val (.pointer (some ⟨g', off' + i * 3, none⟩)), PP.val (.agg #[.bool b1', .slice a1' n1' c1', .slice a2' n2' c2']), PP.val (.bool s), PP.val (.bool (!s))] [] [0, 1, 2, 3, 4, 5, 6, 7, 8, 9]
          (by kernel_rfl) (by kernel_rfl) (fun f => (by simp only [fillR, fillL, List.setIfInBounds_toArray, List.set_cons_succ, List.set_cons_zero, Nat.reduceAdd]; rfl)) ?_ ?_ ?_ ?_ ?_
        · intro x hx; cases hx
        · intro x hx; cases hx
        · intro x hx; cases hx
        · refine ⟨?o0, ?o1, ?o2, ?o3, ?o4, ?o5, ?o6, ?o7, ?o8, ?o9, trivial⟩
          case o0 =>
            intro f w6 hG hp hl
            have hE : Ext wr w6 := hG
            have hS := hE.size
            simp only [OpGoal]
            go_simp
            exact ⟨_, rfl, Ext.refl _, rfl⟩
          case o1 =>
            intro f w6 hG hp hl
            have hE : Ext wr w6 := hG
            have hS := hE.size
            simp only [OpGoal]
            go_simp
            exact ⟨_, rfl, Ext.refl _, rfl⟩
          case o2 =>
            intro f w6 hG hp hl
            have hE : Ext wr w6 := hG
            have hS := hE.size
            have q17 : f 0 = .slice (some ⟨g, off, none⟩) n cap := tellV hp 0 0 rfl rfl (fun h => by cases h)
            have q18 : f 1 = .int .i64 (i : Int) := tellV hp 1 1 rfl rfl (fun h => by cases h)
            simp only [OpGoal]
            go_simp
            exact ⟨_, rfl, Ext.refl _, rfl⟩
          case o3 =>
            intro f w6 hG hp hl
            have hE : Ext wr w6 := hG
            have hS := hE.size
            have q19 : f 2 = .pointer (some ⟨g, off + i * 3, none⟩) := tellV hp 0 2 rfl rfl (fun h => by cases h)
            change OpGoal _ _ _ f w6 Ext _
            exact og_loadAt (P := Tryz.prog) _ _ g (off + i * 3) _ _ rfl rfl q19 (fun j v h => HC3.out _ (hE0.trans hE) j v h) Tryz.underlying30 rfl (by kernel_rfl) rfl
          case o4 =>
            intro f w6 hG hp hl
            have hE : Ext wr w6 := hG
            have hS := hE.size
            simp only [OpGoal]
            go_simp
            exact ⟨_, rfl, Ext.refl _, rfl⟩
          case o5 =>
            intro f w6 hG hp hl
            have hE : Ext wr w6 := hG
            have hS := hE.size
            simp only [OpGoal]
            go_simp
            exact ⟨_, rfl, Ext.refl _, rfl⟩
          case o6 =>
            intro f w6 hG hp hl
            have hE : Ext wr w6 := hG
            have hS := hE.size
            have q21 : f 4 = .slice (some ⟨g', off', none⟩) n cap2 := tellV hp 0 4 rfl rfl (fun h => by cases h)
            have q22 : f 5 = .int .i64 (i : Int) := tellV hp 1 5 rfl rfl (fun h => by cases h)
            simp only [OpGoal]
            go_simp
            exact ⟨_, rfl, Ext.refl _, rfl⟩
          case o7 =>
            intro f w6 hG hp hl
            have hE : Ext wr w6 := hG
            have hS := hE.size
            have q23 : f 6 = .pointer (some ⟨g', off' + i * 3, none⟩) := tellV hp 0 6 rfl rfl (fun h => by cases h)
            change OpGoal _ _ _ f w6 Ext _
            exact og_loadAt (P := Tryz.prog) _ _ g' (off' + i * 3) _ _ rfl rfl q23 (fun j v h => HC3'.out _ (hE0.trans hE) j v h) Tryz.underlying30 rfl (by kernel_rfl) rfl
          case o8 =>
            intro f w6 hG hp hl
            have hE : Ext wr w6 := hG
            have hS := hE.size
            have q20 : f 3 = .agg #[.bool b1, .slice a1 n1 c1, .slice a2 n2 c2] := tellV hp 0 3 rfl rfl (fun h => by cases h)
            have q24 : f 7 = .agg #[.bool b1', .slice a1' n1' c1', .slice a2' n2' c2'] := tellV hp 1 7 rfl rfl (fun h => by cases h)
            change OpGoal _ _ _ f w6 Ext _
            refine og_call (P := Tryz.prog) _ _ _ #[f 3, f 7] Tryz.func14 (by kernel_rfl) (by kernel_rfl) rfl rfl (by kernel_rfl) ?_
            rw [q20, q24]
            refine (rqsame3_calls _ _ xb yb xs xt ys yt _ (HR.out.1.ext hE) (HR'.out.1.ext hE)).mono ?_
            rintro e w' ⟨rfl, h2⟩
            exact ⟨_, rfl, h2, congrArg Value.bool HS.out.symm⟩
          case o9 =>
            intro f w6 hG hp hl
            have hE : Ext wr w6 := hG
            have hS := hE.size
            have q25 : f 8 = .bool s := tellV hp 0 8 rfl rfl (fun h => by cases h)
            simp only [OpGoal]
            go_simp
            exact ⟨_, rfl, Ext.refl _, rfl⟩
        · intro f w6 hG hp
          have hE : Ext wr w6 := ChgS.nil hG
          have q26 : f 9 = .bool (!s) := endV hp 9 (by decide) rfl (fun h => by cases h)
          try simp only [q26]
          clear hp
          cases s with
          | true =>
            have ht : l.take (i + 1) = m.take (i + 1) := by
              have h1 := HS.out
              have h2 := of_decide_eq_true h1.symm
              rw [List.take_add_one, List.take_add_one, HXY.out.1, HXY.out.2, hT.out, h2.1.1, h2.1.2, h2.2]
            have HT := Lib.hid ht
            clear ht
            go_wp2
            go_roundw
            case rel => exact ⟨i + 1, by omega, congrArg (Value.int .i64) (by omega), HT, hE0.trans hE⟩
            case measure => simp [intOf]; omega
          | false =>
            have he : l ≠ m := fun h => by
              have h1 := of_decide_eq_false HS.out.symm
              have h2 := HXY.out.1.symm.trans ((congrArg (fun z => z[i]?) h).trans HXY.out.2)
              simp only [Option.some.injEq, Prod.mk.injEq] at h2
              exact h1 ⟨⟨h2.1, h2.2.1⟩, h2.2.2⟩
            have HR := Lib.hid (decide_eq_false he)
            clear he
            go_wp2
            go_ret
            exact ⟨by rw [HR.out] <;> rfl, hE0.trans hE⟩
  · have he : l ≠ m := fun h => hnm (by rw [HN.out, HM.out, h])
    have hz : (n : Int) ≠ (n2 : Int) := by omega
    have HR := Lib.hid (decide_eq_false he)
    clear he
    go_wp2
    go_ret
    exact ⟨by rw [HR.out] <;> rfl, Ext.refl _⟩
set_option maxRecDepth 100000 in
set_option maxHeartbeats 1000000 in
theorem sameAll_true (v u : Value) (l : List RE) (w : World) (hv : SLQ w v l) (hu : SLQ w u l) : Calls Tryz.prog 24 #[v, u] w fun e w' => e = .returned (.bool true) ∧ Ext w w' := by
  refine (sameAll3_calls v u l l w hv hu).mono ?_
  rintro e w' ⟨rfl, h⟩
  exact ⟨by simp, h⟩
end Go.Proofs.YtoodekggpbbogaaGreat

/-
  A list of numbers as a vector (vec.Gather); the document's product with a list (Dot).
-/
namespace Go.Proofs.YtoodekggpbbogaaGreat
open Go.RowKit
set_option linter.unusedVariables false
set_option linter.unusedSimpArgs false

/-- The first i numbers of a list, each at its place. -/
def gaN (xs : List Rat) (i : Nat) : List (Int × Rat) := (List.range i).map fun (j : Nat) => ((j : Int), xs.getD j 0)
set_option maxRecDepth 100000 in
set_option maxHeartbeats 1000000 in
theorem gaN_snoc {xs : List Rat} {i : Nat} {x : Rat} (h : xs[i]? = some x) : gaN xs (i + 1) = gaN xs i ++ [((i : Int), x)] := by
  unfold gaN
  rw [List.range_succ, List.map_append, List.map_singleton, List.getD_eq_getElem?_getD, h]
  rfl
set_option maxRecDepth 100000 in
set_option maxHeartbeats 1000000 in
theorem gaN_len (xs : List Rat) (i : Nat) : (gaN xs i).length = i := by unfold gaN; simp
/-- Terms that point to the list's numbers, as far as they have been laid. -/
def GaJ (w wr : World) (k i : Nat) (xs : List Rat) (lv : Value) (vs : List Value) : Prop := Ext w wr ∧ LS 50 4 w.heap.size wr lv vs ∧ vs.length = i ∧ ∃ ps : Ps, vs = (tsP ps).map tmv ∧ lP ps = gaN xs i ∧ ∀ p ∈ ps, IsR w (ratv p.1) p.2 k
set_option maxRecDepth 100000 in
set_option maxHeartbeats 1000000 in
theorem GaJ.tl {w wr : World} {k i : Nat} {xs : List Rat} {lv : Value} {vs : List Value} (h : GaJ w wr k i xs lv vs) : TL k wr lv (gaN xs i) := by
  obtain ⟨h1, h2, h3, ps, rfl, h5, h6⟩ := h
  rw [← h5]
  exact LS.tl h2 fun p hp => (h6 p hp).ext h1
set_option maxRecDepth 100000 in
set_option maxHeartbeats 1000000 in
theorem GaJ.app {w wr w7 : World} {k i : Nat} {xs : List Rat} {lv v' : Value} {vs : List Value} {x : Rat} {b : Bool} {a1 a2 : Option Addr} {n1 c1 n2 c2 : Nat} (h : GaJ w wr k i xs lv vs) (hE : Ext w w7) (hls : LS 50 4 w.heap.size w7 v' (vs ++ [.agg #[.int .i64 (i : Int), .bool b, .slice a1 n1 c1, .slice a2 n2 c2]])) (hx : xs[i]? = some x) (hR : IsR w (.agg #[.bool b, .slice a1 n1 c1, .slice a2 n2 c2]) x k) : GaJ w w7 k (i + 1) xs v' (vs ++ [.agg #[.int .i64 (i : Int), .bool b, .slice a1 n1 c1, .slice a2 n2 c2]]) := by
  obtain ⟨h1, h2, h3, ps, rfl, h5, h6⟩ := h
  refine ⟨hE, hls, by rw [List.length_append, h3]; rfl, ps ++ [(⟨i, b, a1, n1, c1, a2, n2, c2⟩, x)], ?_, ?_, fun p hp => ?_⟩
  · rw [tsP_snoc, List.map_append]
    rfl
  · rw [lP_snoc, h5, gaN_snoc hx]
  · rcases List.mem_append.1 hp with hp | hp
    · exact h6 p hp
    · rw [List.mem_singleton] at hp
      subst hp
      exact hR

set_option maxRecDepth 100000 in
set_option maxHeartbeats 4000000 in
theorem gather_calls (k : Nat) (v : Value) (xs : List Rat) (w : World) (hx : QL k w v xs) (hn : xs.length ≤ 1073741824) (hk : (xs.length + 1) * (k + 1) ≤ 34359738000) :
    Calls Tryz.prog 22 #[v] w fun e w' => ∃ v', e = .returned v' ∧ TO w.heap.size (xs.length * (k + 1)) w' v' (mkV (gaN xs xs.length)) ∧ Ext w w' := by
  obtain ⟨ad, n, cap, hnl, rfl, hn1, hat⟩ := hx.at
  rw [← hnl] at hn hk ⊢
  have HN := Lib.hid hnl
  have HAT := Lib.hid hat
  have HK := Lib.hid hk
  clear hnl hx hat hk
  go_enter Tryz.func22, Tryz.ntmps22
  go_wp2_with fail
  go_loopw [3, 8] (fun s3 s8 wr => ∃ (i : Nat) (vs : List Value) (ado : Option Addr) (capo : Nat), i ≤ n ∧ s8 = .int .i64 (i : Int) ∧ s3 = .slice ado i capo ∧ Hid (GaJ w wr k i xs (.slice ado i capo) vs)) (fun _ s8 _ => ((n : Int) - intOf s8).toNat)
  case atStart => exact ⟨0, [], none, 0, Nat.zero_le _, rfl, rfl, Lib.hid ⟨Ext.refl _, LS.nil _ _ _ _, rfl, [], rfl, rfl, fun p hp => by cases hp⟩⟩
  case round =>
    obtain ⟨i, vs, ado, capo, hi, rfl, rfl, hH⟩ := hrel
    have hE0 := hH.out.1
    rcases Nat.eq_or_lt_of_le hi with hin | hin
    · subst hin
      have hlt : ¬ ((i : Int) < (i : Int)) := by omega
      have HT := Lib.hid hH.out.tl
      go_wp2_with fail
      refine (vmake_calls k _ _ wr HT.out (by rw [gaN_len]; exact hn) (by rw [gaN_len]; exact HK.out)).mono ?_
      rw [gaN_len]
      rintro e w2 ⟨v2, rfl, t2, e2⟩
      have T2 := Lib.hid (t2.mono hE0.size)
      clear t2
      go_wp2
      go_ret
      exact ⟨_, rfl, T2.out, hE0.trans e2⟩
    · have hlt : (i : Int) < (n : Int) := by omega
      obtain ⟨x, hx⟩ : ∃ x, xs[i]? = some x := ⟨_, List.getElem?_eq_getElem (by rw [← HN.out]; exact hin)⟩
      obtain ⟨g, off, rfl, b, a1, n1, c1, a2, n2, c2, hcell, hR⟩ := HAT.out i x hx
      have hc0 := hcell wr hE0 0 _ rfl
      have hc1 := hcell wr hE0 1 _ rfl
      have hc2 := hcell wr hE0 2 _ rfl
      simp only [Nat.add_zero] at hc0
      have HX := Lib.hid (And.intro hx hR)
      have hvi : vs.length = i := hH.out.2.2.1
      subst hvi
      have hwr := hE0.size
      obtain ⟨w5, hw5, e5, b5, s5⟩ := alloc1 wr #[.bool b, .slice a1 n1 c1, .slice a2 n2 c2] 30
      have hd0 := b5.cell 0
      have hd1 := b5.cell 1
      have hd2 := b5.cell 2
      have hls5 : Hid (LS 50 4 w.heap.size w5 (.slice ado vs.length capo) vs) := Lib.hid (hH.out.2.1.ext e5)
      rw [hw5] at hd0 hd1 hd2
      have HW5 := Lib.hid hw5
      clear hcell hx hR hw5
      have hs5 : w5.heap.size = wr.heap.size + 1 := s5
      go_wp2_with (first
        | (at_builtin; go_loud (refine wpList_append_LS rfl _ _ 22 rfl 50 4 64 w.heap.size Tryz.underlying22 (by kernel_rfl) (by kernel_rfl) (by omega) _ vs rfl (by rw [← HW5.out]; exact hls5.out.ext ((Ext.refl _).alloc _)) ⟨wr.heap.size + 1, 0, none⟩ #[.int .i64 (vs.length : Int), .bool b, .slice a1 n1 c1, .slice a2 n2 c2] rfl rfl (by rw [← HW5.out, ← hs5]; exact news_new _ _ _) (by kernel_rfl) (by omega) (by omega) (by rw [alloc_size, ← HW5.out]; omega) ?_); intro g' cap2' w7 hls7 hg7 hwh7 hlt7)
        | fail)
      go_roundw
      case rel =>
        rw [← HW5.out] at hg7
        have hA := (Ext.refl w5).alloc (.cells #[.int .i64 (vs.length : Int), .bool b, .slice a1 n1 c1, .slice a2 n2 c2] 50)
        have hE7 : Ext w w7 := ((hE0.trans e5).trans hA).stepG hg7 hls5.out.ge
        exact ⟨vs.length + 1, _, some ⟨g', 0, none⟩, cap2', by omega, by simp, rfl, Lib.hid (hH.out.app hE7 hls7 HX.out.1 HX.out.2)⟩
      case measure => simp [intOf]; omega
set_option maxRecDepth 100000 in
set_option maxHeartbeats 1000000 in
theorem dotS_snoc (f : Int → Rat) (ys : List Rat) (y : Rat) : ∀ c, dotS f (ys ++ [y]) c = dotS f ys c + f (c + (ys.length : Int)) * y := by
  induction ys with
  | nil => intro c; simp [dotS, Rat.zero_add, Rat.add_zero]
  | cons x ys ih =>
    intro c
    rw [List.cons_append]
    simp only [dotS, ih]
    rw [List.length_cons, Rat.add_assoc, show c + 1 + (ys.length : Int) = c + ((ys.length + 1 : Nat) : Int) by omega]

set_option maxRecDepth 100000 in
set_option maxHeartbeats 4000000 in
theorem dot5_calls (k : Nat) (v u : Value) (l : List (Int × Rat)) (xs : List Rat) (w : World) (hl : TL k w v l) (hx : QL k w u xs) (hk : k ≤ 1000) (hn : l.length ≤ 1000) (hnx : xs.length ≤ 1000) :
    Calls Tryz.prog 23 #[v, u] w fun e w' => ∃ v', e = .returned v' ∧ FrQd w.heap.size w' v' (dotV l xs) ∧ szD (dotV l xs) ≤ 68719476736 ∧ Ext w w' := by
  obtain ⟨ad, n, cap, hnl, rfl, hn1, hat⟩ := hx.at
  rw [← hnl] at hnx
  have HN := Lib.hid hnl
  have HAT := Lib.hid hat
  have HL := Lib.hid hl
  have HNL := Lib.hid hn
  obtain ⟨G, hG⟩ : ∃ G, G = l.length * (5 * k + 1) + 1 := ⟨_, rfl⟩
  have hGb : G ≤ 5001001 := by
    have : l.length * (5 * k + 1) ≤ 1000 * 5001 := Nat.mul_le_mul (by omega) (by omega)
    omega
  have HG := Lib.hid hG
  obtain ⟨C, hC1, hC2⟩ : ∃ C : Nat, C ≤ 5006002 ∧ 5006002 ≤ C := ⟨5006002, Nat.le_refl _, Nat.le_refl _⟩
  clear hnl hx hat hl hn hG
  obtain ⟨q, hq⟩ : ∃ q : Nat → Rat, q = fun i => dotS (getV l) (xs.take i) 0 := ⟨_, rfl⟩
  have hq0 : q 0 = 0 := by rw [hq]; rfl
  have hqn : q n = dotV l xs := by rw [hq, dotV_sum]; simp only; rw [HN.out, List.take_length]
  have hqs : ∀ (i : Nat) (x : Rat), xs[i]? = some x → q (i + 1) = q i + getV l (i : Int) * x := fun i x hi => by
    rw [hq]
    simp only
    rw [take_next hi, dotS_snoc, Int.zero_add, List.length_take, Nat.min_eq_left (Nat.le_of_lt (List.getElem?_eq_some_iff.1 hi).1)]
  have HQ0 := Lib.hid hq0
  have HQN := Lib.hid hqn
  have HQS := Lib.hid hqs
  clear hq hq0 hqn hqs
  rw [← HQN.out]
  go_enter Tryz.func23, Tryz.ntmps23
  obtain ⟨w1, hw1, e1, b1, s1⟩ := alloc1 w #[.bool false, .slice none 0 0, .slice none 0 0] 39
  go_wp2_with fail
  rw [← hw1]
  refine (rqsmall3_calls 0 _ (by omega) (by omega)).mono ?_
  rintro e w2 ⟨v2, rfl, q2, e2⟩
  obtain ⟨b, ad2, l2, cap2, bd, m2, dap, rfl, q2⟩ := q2.opn
  have Hq2 := Lib.hid q2
  obtain ⟨w3, hw3, e3, b3, s3⟩ := alloc1 w2 #[.bool b, .slice ad2 l2 cap2, .slice bd m2 dap] 39
  clear q2
  go_wp2_with fail
  rw [← hw3]
  have HJ : DtJ w w3 w2.heap.size (0 * C + 1) (q 0) := ⟨(e1.trans e2).trans e3, _, _, _, _, _, _, _, b3, by rw [HQ0.out]; exact (Hq2.out.ext e3).mono e1.size, by rw [HQ0.out]; have : szD 0 ≤ 1 := (by decide); rw [Nat.zero_mul]; exact this⟩
  have HJ0 := Lib.hid HJ
  have hs2 : w.heap.size < w2.heap.size := by have := e1.size; have := e2.size; have := b1.lt; have := s1; omega
  obtain ⟨g5, hg5⟩ : ∃ g5, g5 = w2.heap.size := ⟨_, rfl⟩
  rw [← hg5] at HJ0 hs2 ⊢
  have B1 : Bx 39 w3 w.heap.size #[.bool false, .slice none 0 0, .slice none 0 0] := (b1.ext e2).ext e3
  clear HJ hw1 hw3 hg5 Hq2
  go_loopw [6] (fun s6 wr => ∃ i : Nat, i ≤ n ∧ s6 = .int .i64 (i : Int) ∧ Hid (DtJ w wr g5 (i * C + 1) (q i) ∧ Bx 39 wr w.heap.size #[.bool false, .slice none 0 0, .slice none 0 0])) (fun s6 _ => ((n : Int) - intOf s6).toNat)
  case atStart => exact ⟨0, Nat.zero_le _, rfl, Lib.hid ⟨HJ0.out, B1⟩⟩
  case round =>
    obtain ⟨i, hi, rfl, hH⟩ := hrel
    obtain ⟨⟨hE0, rb, r1, m1, d1, r2, m2', d2, hbx, hq, hsz⟩, hB0⟩ := hH.out
    have HQ := Lib.hid hq
    have HSZ := Lib.hid hsz
    clear hq hsz hH HJ0 B1 b1 b3 e1 e2 e3 s1 s3
    rcases Nat.eq_or_lt_of_le hi with hin | hin
    · subst hin
      have hlt : ¬ ((i : Int) < (i : Int)) := by omega
      have hcx0 := hbx.cell 0
      have hcx1 := hbx.cell 1
      have hcx2 := hbx.cell 2
      have hb := hB0
      have hc0 := hb.cell 0
      have hc1 := hb.cell 1
      have hc2 := hb.cell 2
      have hf0 := hb.free 0
      have hf1 := hb.free 1
      have hf2 := hb.free 2
      clear hbx
      have hszw := hE0.size
      go_wp2
      refine ret_box 4 39 w.heap.size 39 _ _ (by kernel_rfl) rfl (((hb.set 0 _).set 1 _).set 2 _) Tryz.underlying39 rfl (by kernel_rfl) rfl ?_
      exact ⟨_, rfl, HQ.out.chgN (Chg.trans (Chg.trans (Chg.setCell _ w.heap.size 0 _) (Chg.setCell _ w.heap.size 1 _)) (Chg.setCell _ w.heap.size 2 _)) hB0 (((hb.set 0 _).set 1 _).set 2 _) (by decide) (by decide), by have := HSZ.out; have h3 : i * C ≤ 1000 * 5006002 := Nat.mul_le_mul (by omega) hC1; omega, hE0.step (Chg.trans (Chg.trans (Chg.setCell _ w.heap.size 0 _) (Chg.setCell _ w.heap.size 1 _)) (Chg.setCell _ w.heap.size 2 _)) (by omega)⟩
    · have hlt : (i : Int) < (n : Int) := by omega
      obtain ⟨x, hx⟩ : ∃ x, xs[i]? = some x := ⟨_, List.getElem?_eq_getElem (by rw [← HN.out]; exact hin)⟩
      obtain ⟨g, off, rfl, b', a1, n1, c1, a2, n2, c2, hcell, hR⟩ := HAT.out i x hx
      have HC := Lib.hid hcell
      have hmul : i * C + C = (i + 1) * C := (Nat.succ_mul i C).symm
      have hic : i * C ≤ 1000 * 5006002 := Nat.mul_le_mul (by omega) hC1
      have HX := Lib.hid hR
      have HQS1 := Lib.hid (HQS.out i x hx)
      obtain ⟨y, hy⟩ : ∃ y, y = getV l (i : Int) := ⟨_, rfl⟩
      rw [← hy] at HQS1
      have HY := Lib.hid hy
      clear hx hR hcell hy
      go_wp2_with fail
      have h5g : g5 < wr.heap.size := hbx.lt
      refine wp_region_puts [⟨11, g5, 39, PP.frQdS (q i + y * x) ((i + 1) * C + 1)⟩] [PP.val (.agg #[.bool rb, .slice r1 m1 d1, .slice r2 m2' d2]), PP.val (v), PP.val (.int .i64 (i : Int)), PP.frQdS y G, PP.val (.slice (some ⟨g, off, none⟩) n cap), PP.val (.int .i64 (i : Int)), PP.val (.pointer (some ⟨g, off + i * 3, none⟩)), PP.val (.agg #[.bool b', .slice a1 n1 c1, .slice a2 n2 c2]), PP.frQd x, PP.frQdS (y * x) (G + 5 * k), PP.frQdS (q i + y * x) ((i + 1) * C + 1), PP.any] [] [11, 10, 9, 8, 7, 6, 5, 4, 3, 2, 1, 0]
        (by kernel_rfl) (by kernel_rfl) (fun f => (by simp only [fillR, fillL, List.setIfInBounds_toArray, List.set_cons_succ, List.set_cons_zero, Nat.reduceAdd]; rfl)) ?_ ?_ ?_ ?_ ?_
      · intro x hx; simp only [List.mem_singleton] at hx; subst hx; exact ⟨by show g5 < wr.heap.size; omega, rfl⟩
      · intro x hx; simp only [List.mem_singleton] at hx; subst hx; rfl
      · intro x hx y hy h; simp only [List.mem_singleton] at hx hy; subst hx hy; exact absurd rfl h
      · refine ⟨?o0, ?o1, ?o2, ?o3, ?o4, ?o5, ?o6, ?o7, ?o8, ?o9, ?o10, ?o11, trivial⟩
        case o0 =>
          intro f w6 hG hp hl
          have hE : Ext wr w6 := hG
          have hS := hE.size
          change OpGoal _ _ _ f w6 Ext _
          exact og_load (P := Tryz.prog) _ _ g5 _ _ _ rfl rfl rfl (hbx.ext hE) Tryz.underlying39 rfl (by kernel_rfl) rfl
        case o1 =>
          intro f w6 hG hp hl
          have hE : Ext wr w6 := hG
          have hS := hE.size
          simp only [OpGoal]
          go_simp
          exact ⟨_, rfl, Ext.refl _, rfl⟩
        case o2 =>
          intro f w6 hG hp hl
          have hE : Ext wr w6 := hG
          have hS := hE.size
          simp only [OpGoal]
          go_simp
          exact ⟨_, rfl, Ext.refl _, rfl⟩
        case o3 =>
          intro f w6 hG hp hl
          have hE : Ext wr w6 := hG
          have hS := hE.size
          have q15 : f 1 = v := tellV hp 0 1 rfl rfl (fun h => by cases h)
          have q16 : f 2 = .int .i64 (i : Int) := tellV hp 1 2 rfl rfl (fun h => by cases h)
          change OpGoal _ _ _ f w6 Ext _
          refine og_call (P := Tryz.prog) _ _ _ #[f 1, f 2] Tryz.func16 (by kernel_rfl) (by kernel_rfl) rfl rfl (by kernel_rfl) ?_
          rw [q15, q16]
          refine (get5_calls k _ (i : Int) l _ (HL.out.ext (hE0.trans hE)) hk (by have := HNL.out; omega)).mono ?_
          rw [← HY.out, ← HG.out]
          rintro e w' ⟨v', rfl, h1, h3, h2⟩
          exact ⟨v', rfl, h2, h1.mono hS, h3⟩
        case o4 =>
          intro f w6 hG hp hl
          have hE : Ext wr w6 := hG
          have hS := hE.size
          simp only [OpGoal]
          go_simp
          exact ⟨_, rfl, Ext.refl _, rfl⟩
        case o5 =>
          intro f w6 hG hp hl
          have hE : Ext wr w6 := hG
          have hS := hE.size
          simp only [OpGoal]
          go_simp
          exact ⟨_, rfl, Ext.refl _, rfl⟩
        case o6 =>
          intro f w6 hG hp hl
          have hE : Ext wr w6 := hG
          have hS := hE.size
          have q18 : f 4 = .slice (some ⟨g, off, none⟩) n cap := tellV hp 0 4 rfl rfl (fun h => by cases h)
          have q19 : f 5 = .int .i64 (i : Int) := tellV hp 1 5 rfl rfl (fun h => by cases h)
          simp only [OpGoal]
          go_simp
          exact ⟨_, rfl, Ext.refl _, rfl⟩
        case o7 =>
          intro f w6 hG hp hl
          have hE : Ext wr w6 := hG
          have hS := hE.size
          have q20 : f 6 = .pointer (some ⟨g, off + i * 3, none⟩) := tellV hp 0 6 rfl rfl (fun h => by cases h)
          change OpGoal _ _ _ f w6 Ext _
          exact og_loadAt (P := Tryz.prog) _ _ g (off + i * 3) _ _ rfl rfl q20 (fun j v h => HC.out _ (hE0.trans hE) j v h) Tryz.underlying30 rfl (by kernel_rfl) rfl
        case o8 =>
          intro f w6 hG hp hl
          have hE : Ext wr w6 := hG
          have hS := hE.size
          have q21 : f 7 = .agg #[.bool b', .slice a1 n1 c1, .slice a2 n2 c2] := tellV hp 0 7 rfl rfl (fun h => by cases h)
          change OpGoal _ _ _ f w6 Ext _
          refine og_call (P := Tryz.prog) _ _ _ #[f 7] Tryz.func52 (by kernel_rfl) (by kernel_rfl) rfl rfl (by kernel_rfl) ?_
          rw [q21]
          refine (rqofR_calls _ x k _ (HX.out.ext (hE0.trans hE)) hk).mono ?_
          rintro e w' ⟨v', rfl, h1, h2⟩
          exact ⟨v', rfl, h2, h1.mono hS⟩
        case o9 =>
          intro f w6 hG hp hl
          have hE : Ext wr w6 := hG
          have hS := hE.size
          have q17 := tellV hp 0 3 rfl rfl (fun _ => hE)
          have q22 := tellV hp 1 8 rfl rfl (fun _ => hE)
          change OpGoal _ _ _ f w6 Ext _
          refine og_call (P := Tryz.prog) _ _ _ #[f 3, f 8] Tryz.func55 (by kernel_rfl) (by kernel_rfl) rfl rfl (by kernel_rfl) ?_
          refine (rqmul3_calls _ _ y x G (5 * k) _ q17.1.cq q22.cq q17.2 (szD_of HX.out.sz) (by omega)).mono ?_
          rintro e w' ⟨v', rfl, h1, h3, h2⟩
          exact ⟨v', rfl, h2, h1.mono hS, h3⟩
        case o10 =>
          intro f w6 hG hp hl
          have hE : Ext wr w6 := hG
          have hS := hE.size
          have q14 : f 0 = .agg #[.bool rb, .slice r1 m1 d1, .slice r2 m2' d2] := tellV hp 0 0 rfl rfl (fun h => by cases h)
          have q23 := tellV hp 1 9 rfl rfl (fun _ => hE)
          change OpGoal _ _ _ f w6 Ext _
          refine og_call (P := Tryz.prog) _ _ _ #[f 0, f 9] Tryz.func51 (by kernel_rfl) (by kernel_rfl) rfl rfl (by kernel_rfl) ?_
          rw [q14]
          refine (rqadd3_calls _ _ (q i) (y * x) (i * C + 1) (G + 5 * k) _ (HQ.out.ext hE).cq q23.1.cq HSZ.out q23.2 (by omega)).mono ?_
          rintro e w' ⟨v', rfl, h1, h3, h2⟩
          exact ⟨v', rfl, h2, h1.mono hS, by omega⟩
        case o11 =>
          intro f w6 hG hp hl
          have hE : Ext wr w6 := hG
          have hS := hE.size
          have q24 := tellV hp 0 10 rfl rfl (fun _ => hE)
          intro hg0
          change OpGoal _ _ _ f w6 (Chg _) _
          obtain ⟨⟨s', t', hv, hn, hm⟩, hsz⟩ := q24
          exact og_store (P := Tryz.prog) _ _ _ g5 _ _ _ (PP.frQdS _ _ : PP _).p rfl rfl rfl hv (show Bx 39 w6 _ _ from hg0.trans hbx) (by kernel_rfl) rfl (all3 rfl hn.oneCell hm.oneCell) (fun w' h => ⟨⟨s', t', rfl, hn.chg h (by omega), hm.chg h (by omega)⟩, hsz⟩)
      · intro f w6 hG hp
        obtain ⟨cs0, hbx0, hz0⟩ : ∃ cs, Bx 39 w6 g5 cs ∧ (PP.frQdS (q i + y * x) ((i + 1) * C + 1) : PP wr.heap.size).p (.agg cs) w6 := endS hp 11 (by decide)
        clear hp
        obtain ⟨hz1, hz2⟩ := hz0
        obtain ⟨b6, a6, l6, cap6, a7, l7, cap7, hvv, hz1⟩ := hz1.opn
        cases hvv
        have Hq6 := Lib.hid hz1
        have Z6 := Lib.hid hz2
        have hsz6 := hE0.size
        have E6 : Ext w w6 := hE0.stepS hG (by simp; omega)
        have B06 : Bx 39 w6 w.heap.size #[.bool false, .slice none 0 0, .slice none 0 0] := hB0.chgS hG (by simp; omega)
        clear hz1 hz2
        go_wp2
        go_roundw
        case rel =>
          refine ⟨i + 1, by omega, congrArg (Value.int .i64) (by omega), Lib.hid ⟨⟨E6, _, _, _, _, _, _, _, hbx0, ?_, ?_⟩, B06⟩⟩
          · rw [HQS1.out]
            exact Hq6.out.mono hsz6
          · rw [HQS1.out]
            exact Z6.out
        case measure => simp [intOf]; omega
end Go.Proofs.YtoodekggpbbogaaGreat

/-
  A vector laid out into places (vec.Scatter; the document's Scatter).
-/
namespace Go.Proofs.YtoodekggpbbogaaGreat
open Go.RowKit
set_option linter.unusedVariables false
set_option linter.unusedSimpArgs false

/-- Can it be laid out into n places? -/
def scOk (l : List (Int × Rat)) (n : Int) : Bool := (decide (0 ≤ n) && decide (n ≤ 65536)) && (mkV l).all (fun x => decide (x.1 < n))
/-- The numbers at the first n places. -/
def scL (l : List (Int × Rat)) (n : Nat) : List Rat := (List.range n).map fun (c : Nat) => getV l (c : Int)
set_option maxRecDepth 100000 in
set_option maxHeartbeats 1000000 in
theorem scL_len (l : List (Int × Rat)) (n : Nat) : (scL l n).length = n := by unfold scL; simp
set_option maxRecDepth 100000 in
set_option maxHeartbeats 1000000 in
theorem scL_get (l : List (Int × Rat)) {n c : Nat} (h : c < n) : (scL l n)[c]? = some (getV l (c : Int)) := by
  unfold scL
  rw [List.getElem?_map, List.getElem?_range h]
  rfl
set_option maxRecDepth 100000 in
set_option maxHeartbeats 1000000 in
/-- Back as a vector. -/
theorem sc_back {l : List (Int × Rat)} {n : Nat} (h : scOk l (n : Int) = true) : mkV (gaN (scL l n) n) = mkV l := by
  refine mkV_congr fun c => ?_
  have hg : gaN (scL l n) n = ((List.range n).map fun (j : Nat) => (j : Int)).map fun c => (c, getV l c) := by
    unfold gaN
    rw [List.map_map]
    refine List.map_congr_left fun j hj => ?_
    rw [List.getD_eq_getElem?_getD, scL_get l (List.mem_range.1 hj)]
    rfl
  have hp : ((List.range n).map fun (j : Nat) => (j : Int)).Pairwise (· < ·) := by
    rw [List.pairwise_map]
    exact List.pairwise_lt_range.imp fun h => by omega
  rw [hg, (getV_map (getV l) hp fun c hc => by obtain ⟨j, -, rfl⟩ := List.mem_map.1 hc; omega).2]
  split
  · rfl
  · rename_i hc
    by_cases h0 : 0 ≤ c
    · have hcn : (n : Int) ≤ c := by
        rcases Int.lt_or_le c n with h1 | h1
        · exact absurd (List.mem_map.2 ⟨c.toNat, List.mem_range.2 (by omega), by omega⟩) hc
        · exact h1
      rw [← mkV_get]
      unfold scOk at h
      simp only [Bool.and_eq_true, List.all_eq_true, decide_eq_true_eq] at h
      exact (getV_none fun x hx he => by have := h.2 x hx; omega).symm
    · unfold getV
      rw [if_neg h0]
set_option maxRecDepth 100000 in
set_option maxHeartbeats 1000000 in
theorem up_one {l : List (Int × Rat)} {c : Int} {q : Rat} (h : Up (l ++ [(c, q)])) (j : Int) : getV (l ++ [(c, q)]) j = if c = j then q else getV l j := by
  have h0 : 0 ≤ c := h.2 (c, q) (by simp)
  rw [getV_snoc]
  by_cases hj : c = j
  · subst hj
    rw [if_pos rfl, if_pos ⟨rfl, h0⟩, getV_none fun x hx he => ?_, Rat.zero_add]
    have := (List.pairwise_append.1 h.1).2.2 x hx (c, q) (List.mem_singleton.2 rfl)
    simp only at this
    omega
  · rw [if_neg hj, if_neg fun h => hj h.1, Rat.add_zero]
set_option maxRecDepth 100000 in
set_option maxHeartbeats 1000000 in
theorem Up.take {l : List (Int × Rat)} (h : Up l) (i : Nat) : Up (l.take i) := ⟨h.1.sublist (List.take_sublist i l), fun x hx => h.2 x (List.mem_of_mem_take hx)⟩

def zRat : Value := .agg #[.bool false, .slice none 0 0, .slice none 0 0]
set_option maxRecDepth 100000 in
set_option maxHeartbeats 1000000 in
theorem infoRat : ∃ i, Tryz.prog.info? 30 = some i ∧ i.size = 3 ∧ i.bytes = 56 ∧ i.zero = some zRat := by
  have h : (Tryz.prog.info? 30).map (fun i => (i.size, i.bytes, i.zero)) = some (3, 56, some zRat) := by kernel_rfl
  cases hi : Tryz.prog.info? 30 with
  | none => rw [hi] at h; cases h
  | some i =>
    rw [hi] at h
    simp only [Option.map_some, Option.some.injEq, Prod.mk.injEq] at h
    exact ⟨i, rfl, h.1, h.2.1, h.2.2⟩
set_option maxRecDepth 100000 in
set_option maxHeartbeats 1000000 in
theorem strN_zero (n : Nat) : StrN 3 (List.replicate n zRat) := fun v hv => by
  obtain ⟨-, rfl⟩ := List.mem_replicate.1 hv
  exact ⟨_, rfl, rfl, all3 rfl rfl rfl⟩
set_option maxRecDepth 100000 in
set_option maxHeartbeats 1000000 in
theorem made_flat (n : Nat) : (madeCells #[.bool false, .slice none 0 0, .slice none 0 0] (n * 3)).toList = flatS (List.replicate n zRat) := by
  have hl := flatS_len (strN_zero n).size
  rw [List.length_replicate] at hl
  apply List.ext_getElem?
  intro j
  rcases Nat.lt_or_ge j (n * 3) with hj | hj
  · have hi : j / 3 < n := Nat.div_lt_of_lt_mul (by omega)
    have hr : j % 3 < 3 := Nat.mod_lt _ (by omega)
    have hz : (List.replicate n zRat)[j / 3]? = some (.agg #[.bool false, .slice none 0 0, .slice none 0 0]) := by
      rw [List.getElem?_replicate, if_pos hi]
      rfl
    have h1 := flatS_get (n := 3) (by omega) (strN_zero n).size hz (j % 3) hr
    have hdm : j / 3 * 3 + j % 3 = j := by omega
    rw [hdm] at h1
    rw [h1, Array.getElem?_toList]
    unfold madeCells
    rw [Array.getElem?_map, Array.getElem?_range, if_pos hj]
    have : j % 3 = 0 ∨ j % 3 = 1 ∨ j % 3 = 2 := by omega
    rcases this with h | h | h <;> simp [h]
  · rw [List.getElem?_eq_none (by rw [Array.length_toList, size_madeCells]; exact hj), List.getElem?_eq_none (by omega)]
set_option maxRecDepth 100000 in
set_option maxHeartbeats 1000000 in
/-- A list of so many numbers, made. -/
theorem make_rats (n : Nat) (hn : n ≤ 65536) : ∃ CS : Array Value, CS = (flatS (List.replicate n zRat)).toArray ∧ ∀ w : World, (Instr.makeSlice 44 (.int .i64 (n : Int)) (.int .i64 (n : Int))).run Tryz.prog w = .ok (.slice (some ⟨w.heap.size, 0, none⟩) n n) (w.alloc (.cells CS 30)) := by
  obtain ⟨i, h1, h2, h3, h4⟩ := infoRat
  refine ⟨_, rfl, fun w => ?_⟩
  have hr := run_make (P := Tryz.prog) w 44 30 i zRat Tryz.underlying44 h1 h4 .i64 .i64 n n (by omega) (Int.le_refl _) (by rw [h3]; omega) (by omega)
  simp only [Int.toNat_natCast] at hr
  rw [hr, h2, show zRat.cells = #[.bool false, .slice none 0 0, .slice none 0 0] from rfl, ← made_flat]
set_option maxRecDepth 100000 in
set_option maxHeartbeats 1000000 in
theorem set3S (b c d : Value) (p : Nat) (l : List Value) (h : p + 3 ≤ l.length) : (((l.toArray.setIfInBounds p b).setIfInBounds (p + 1) c).setIfInBounds (p + 2) d).toList = laidS l p [b, c, d] := by
  rw [← set3 b c d p l h]
  simp
set_option maxRecDepth 100000 in
set_option maxHeartbeats 1000000 in
/-- One number stored into the list in block g. -/
theorem hold_set3 {w : World} {g i : Nat} {vs : List Value} {b c d : Value} (hb : Bx 30 w g (flatS vs).toArray) (h5 : StrN 3 vs) (hi : i < vs.length) : Bx 30 (((w.setCell ⟨g, i * 3, none⟩ b).setCell ⟨g, i * 3 + 1, none⟩ c).setCell ⟨g, i * 3 + 2, none⟩ d) g (flatS (vs.set i (.agg #[b, c, d]))).toArray := by
  have h := ((hb.set (i * 3) b).set (i * 3 + 1) c).set (i * 3 + 2) d
  have hlen := flatS_len h5.size
  have h2 := set3S b c d (i * 3) (flatS vs) (by rw [hlen]; omega)
  have h3 := laidS_flat (rest := []) (v := .agg #[b, c, d]) h5.size hi rfl
  rw [List.append_nil, List.append_nil] at h3
  have h4 : (((flatS vs).toArray.setIfInBounds (i * 3) b).setIfInBounds (i * 3 + 1) c).setIfInBounds (i * 3 + 2) d = (flatS (vs.set i (.agg #[b, c, d]))).toArray := by
    apply Array.ext'
    rw [h2, List.toList_toArray, ← h3]
    rfl
  rw [h4] at h
  exact h
/-- A number that has been made, of at most k words. -/
def FrK (B k : Nat) (w : World) (v : Value) (q : Rat) : Prop := FrQ B w v q ∧ szQ q ≤ k
set_option maxRecDepth 100000 in
set_option maxHeartbeats 1000000 in
theorem FrK.ext {B k : Nat} {w w' : World} {v : Value} {q : Rat} (h : FrK B k w v q) (he : Ext w w') : FrK B k w' v q := ⟨h.1.ext he, h.2⟩
/-- The list while it is filled: what stands at each place. -/
def ScJ (w wr : World) (g K N : Nat) (q : Nat → Option Rat) : Prop := Ext w wr ∧ ∃ vs, Bx 30 wr g (flatS vs).toArray ∧ StrN 3 vs ∧ vs.length = N ∧ ∀ (j : Nat) (u : Value) (x : Rat), vs[j]? = some u → q j = some x → FrK w.heap.size K wr u x
set_option maxRecDepth 100000 in
set_option maxHeartbeats 1000000 in
/-- A number, made, of at most K words. -/
theorem ScJ.set {w wr w' : World} {g K N i : Nat} {q q' : Nat → Option Rat} {b : Bool} {a1 a2 : Option Addr} {n1 c1 n2 c2 : Nat} {x : Rat} (h : ScJ w wr g K N q) (he : Ext wr w') (hg : w.heap.size ≤ g) (hi : i < N) (hx : FrK w.heap.size K w' (.agg #[.bool b, .slice a1 n1 c1, .slice a2 n2 c2]) x) (hq : ∀ j, q' j = if j = i then some x else q j) : ScJ w (((w'.setCell ⟨g, i * 3, none⟩ (.bool b)).setCell ⟨g, i * 3 + 1, none⟩ (.slice a1 n1 c1)).setCell ⟨g, i * 3 + 2, none⟩ (.slice a2 n2 c2)) g K N q' := by
  obtain ⟨h1, vs, h2, h3, h4, h5⟩ := h
  have hb := h2.ext he
  have hb' := hold_set3 (b := .bool b) (c := .slice a1 n1 c1) (d := .slice a2 n2 c2) hb h3 (by rw [h4]; exact hi)
  have hc : Chg g w' (((w'.setCell ⟨g, i * 3, none⟩ (.bool b)).setCell ⟨g, i * 3 + 1, none⟩ (.slice a1 n1 c1)).setCell ⟨g, i * 3 + 2, none⟩ (.slice a2 n2 c2)) := (Chg.trans (Chg.trans (Chg.setCell _ g _ _) (Chg.setCell _ g _ _)) (Chg.setCell _ g _ _))
  have hk : ∀ u y, FrK w.heap.size K w' u y → FrK w.heap.size K _ u y := fun u y hf => ⟨hf.1.chgN hc hb hb' (by decide) (by decide), hf.2⟩
  refine ⟨(h1.trans he).step hc hg, _, hb', h3.set (StrN.one rfl (all3 rfl rfl rfl)) i, by rw [List.length_set]; exact h4, fun j u y hu hy => ?_⟩
  rw [List.getElem?_set] at hu
  rw [hq j] at hy
  by_cases hj : i = j
  · subst hj
    rw [if_pos rfl] at hu hy
    rw [if_pos (by rw [h4]; exact hi)] at hu
    cases hu
    cases hy
    exact hk _ _ hx
  · rw [if_neg hj] at hu
    rw [if_neg (fun e => hj e.symm)] at hy
    have := h5 j u y hu hy
    exact hk _ _ ⟨this.1.ext he, this.2⟩
end Go.Proofs.YtoodekggpbbogaaGreat

/-
  A vector laid out into places (vec.Scatter).
-/
namespace Go.Proofs.YtoodekggpbbogaaGreat
open Go.RowKit
set_option linter.unusedVariables false
set_option linter.unusedSimpArgs false

set_option maxRecDepth 100000 in
set_option maxHeartbeats 1000000 in
/-- A made list of terms opened. -/
theorem TO.at {B k : Nat} {w : World} {v : Value} {m : List (Int × Rat)} (h : TO B k w v m) : ∃ ad cap, v = .slice ad m.length cap ∧ m.length ≤ 9223372036854775807 ∧ ∀ (i : Nat) (x : Int × Rat), m[i]? = some x → ∃ g, ad = some ⟨g, 0, none⟩ ∧ ∃ b a1 n1 c1 a2 n2 c2,
    (∀ wz, Ext w wz → wz.cell? ⟨g, i * 4, none⟩ = some (.int .i64 x.1) ∧ wz.cell? ⟨g, i * 4 + 1, none⟩ = some (.bool b) ∧ wz.cell? ⟨g, i * 4 + 2, none⟩ = some (.slice a1 n1 c1) ∧ wz.cell? ⟨g, i * 4 + 3, none⟩ = some (.slice a2 n2 c2)) ∧ FrQ B w (.agg #[.bool b, .slice a1 n1 c1, .slice a2 n2 c2]) x.2 ∧ szQ x.2 ≤ k := by
  obtain ⟨ts, h1, h2, h3⟩ := h
  obtain ⟨ad, cap, e1, e2, e3, -⟩ := h2.opn
  rw [List.length_map, h1] at e1 e2
  refine ⟨ad, cap, e1, by omega, fun i x hi => ?_⟩
  obtain ⟨t, ht⟩ : ∃ t, ts[i]? = some t := ⟨_, List.getElem?_eq_getElem (by have := (List.getElem?_eq_some_iff.1 hi).1; omega)⟩
  obtain ⟨k1, k2, k3⟩ := h3 i t x ht hi
  obtain ⟨g', cap2, j1, j2, cs, j3, j4, j5, j6⟩ := h2.at (by omega) (i := i) (u := tmv t) (by rw [List.getElem?_map, ht]; rfl)
  rw [e1] at j1
  simp only [Value.slice.injEq] at j1
  unfold tmv at j3
  cases j3
  refine ⟨g', j1.1, t.b, t.a1, t.n1, t.c1, t.a2, t.n2, t.c2, fun wz hz => ⟨?_, ?_, ?_, ?_⟩, k2, k3⟩
  · rw [← k1]; exact (j6 wz hz 0 _ rfl).1
  · exact (j6 wz hz 1 _ rfl).1
  · exact (j6 wz hz 2 _ rfl).1
  · exact (j6 wz hz 3 _ rfl).1
/-- The error's number. -/
def scE : Bool → Int
  | true => 0
  | false => 2
def ScR (B K : Nat) (w : World) (v : Value) (l : List (Int × Rat)) (n : Int) : Prop := (scOk l n = true → OL 30 3 B (FrK B K) w v (scL l n.toNat)) ∧ (scOk l n = false → v = .slice none 0 0)
set_option maxRecDepth 100000 in
set_option maxHeartbeats 1000000 in
theorem scOk_neg {l : List (Int × Rat)} {n : Int} (h : n < 0) : scOk l n = false := by
  unfold scOk
  rw [decide_eq_false (by omega)]
  rfl
set_option maxRecDepth 100000 in
set_option maxHeartbeats 1000000 in
theorem scOk_big {l : List (Int × Rat)} {n : Int} (h : 65536 < n) : scOk l n = false := by
  unfold scOk
  rw [show decide (n ≤ 65536) = false from decide_eq_false (by omega), Bool.and_false]
  rfl
set_option maxRecDepth 100000 in
set_option maxHeartbeats 1000000 in
theorem scOk_last {l m0 : List (Int × Rat)} {n d : Int} {r : Rat} (h : mkV l = m0 ++ [(d, r)]) (h0 : 0 ≤ n) (h1 : n ≤ 65536) : scOk l n = decide (d < n) := by
  have hu := (mkV_nf l).1
  rw [h] at hu
  unfold scOk
  rw [decide_eq_true h0, decide_eq_true h1, h]
  by_cases hd : d < n
  · rw [decide_eq_true hd]
    simp only [Bool.and_self, Bool.true_and, List.all_eq_true, decide_eq_true_eq]
    intro x hx
    rcases List.mem_append.1 hx with hx | hx
    · have := (List.pairwise_append.1 hu.1).2.2 x hx (d, r) (List.mem_singleton.2 rfl)
      simp only at this
      omega
    · rw [List.mem_singleton] at hx
      subst hx
      exact hd
  · rw [decide_eq_false hd]
    simp [hd]
set_option maxRecDepth 100000 in
set_option maxHeartbeats 1000000 in
theorem scOk_nil {l : List (Int × Rat)} {n : Int} (h : mkV l = []) (h0 : 0 ≤ n) (h1 : n ≤ 65536) : scOk l n = true := by
  unfold scOk
  rw [decide_eq_true h0, decide_eq_true h1, h]
  rfl
set_option maxRecDepth 100000 in
set_option maxHeartbeats 1000000 in
theorem szQ0 : szQ ((0 : Int) : Rat) ≤ 1 := by decide +kernel

set_option maxRecDepth 100000 in
set_option maxHeartbeats 8000000 in
theorem scatter_calls (k : Nat) (v : Value) (nI : Int) (l : List (Int × Rat)) (w : World) (hl : TL k w v l) (hn : l.length ≤ 1073741824) (hk : (l.length + 1) * (k + 1) ≤ 34359738000) (hb : nI ≤ 300 ∨ 65536 < nI) :
    Calls Tryz.prog 30 #[v, .int .i64 nI] w fun e w' => ∃ v', e = .returned (.tuple #[v', .int .i64 (scE (scOk l nI))]) ∧ ScR w.heap.size (l.length * (k + 1) + 1) w' v' l nI ∧ Ext w w' := by
  obtain ⟨K, hK⟩ : ∃ K, K = l.length * (k + 1) + 1 := ⟨_, rfl⟩
  rw [← hK]
  have HK := Lib.hid hK
  have HL := Lib.hid hl
  have HNK := Lib.hid (And.intro hn hk)
  clear hK hl hn hk
  go_enter Tryz.func30, Tryz.ntmps30
  go_wp2_with fail
  refine (vmake_calls k _ l w HL.out HNK.out.1 HNK.out.2).mono ?_
  rintro e w2 ⟨v2, rfl, t2, e2⟩
  obtain ⟨m, hm⟩ : ∃ m, m = mkV l := ⟨_, rfl⟩
  rw [← hm] at t2
  obtain ⟨ad, cap, rfl, hmn9, hat⟩ := t2.at
  have hup : Up m := by rw [hm]; exact (mkV_nf l).1
  obtain ⟨mn, hmn⟩ : ∃ x, x = m.length := ⟨_, rfl⟩
  rw [← hmn] at hmn9 ⊢
  have HM := Lib.hid hm
  have HAT := Lib.hid hat
  have HUP := Lib.hid hup
  clear hm hat t2 hup
  by_cases h1 : nI < 0
  · have hS : Hid (scOk l nI = false) := Lib.hid (scOk_neg h1)
    clear hmn
    go_wp2
    go_ret2
    exact ⟨_, by rw [hS.out] <;> rfl, ⟨fun h => (by rw [hS.out] at h; cases h), fun _ => rfl⟩, e2⟩
  by_cases h2 : 65536 < nI
  · have hS : Hid (scOk l nI = false) := Lib.hid (scOk_big h2)
    clear hmn
    go_wp2
    go_ret2
    exact ⟨_, by rw [hS.out] <;> rfl, ⟨fun h => (by rw [hS.out] at h; cases h), fun _ => rfl⟩, e2⟩
  obtain ⟨N, rfl⟩ : ∃ N : Nat, nI = (N : Int) := ⟨nI.toNat, by omega⟩
  have hN : N ≤ 300 := by omega
  obtain ⟨CS, hCS, hmk⟩ := make_rats N (by omega)
  have HCS := Lib.hid hCS
  clear hCS hb
  rcases nil_or_snoc m with hm0 | ⟨m0, ⟨d, r⟩, hm0⟩
  · have hz : mn = 0 := by rw [hmn, hm0]; rfl
    have hOK : Hid (scOk l (N : Int) = true) := Lib.hid (scOk_nil (by rw [← HM.out]; exact hm0) (by omega) (by omega))
    have HMN0 : Hid (0 = m.length) := Lib.hid (by rw [hm0]; rfl)
    subst hz
    clear hmn hm0
    have hN9 : (N : Int) ≤ 300 := by omega
    obtain ⟨w3, hw3⟩ : ∃ w3, w3 = w2.alloc (.cells CS 30) := ⟨_, rfl⟩
    have e3 : Ext w2 w3 := hw3 ▸ (Ext.refl _).alloc _
    have HJ : ScJ w w3 w2.heap.size K N (fun j => if j < 0 then some 0 else none) := ⟨e2.trans e3, List.replicate N zRat, by rw [← HCS.out]; exact hw3 ▸ Bx.new w2 _ CS, strN_zero N, List.length_replicate .., fun j u x _ h => by simp at h⟩
    have HJ0 := Lib.hid HJ
    have hs2 := e2.size
    go_wp2_with fail
    rw [← hw3]
    obtain ⟨g7, hg7⟩ : ∃ g7, g7 = w2.heap.size := ⟨_, rfl⟩
    rw [← hg7] at HJ0 hs2 ⊢
    have hgw : w2.heap.size ≤ g7 := by omega
    clear HJ hw3 hg7
    go_loopw [39] (fun s39 wr => ∃ i : Nat, i ≤ N ∧ s39 = .int .i64 (i : Int) ∧ Hid (ScJ w wr g7 K N (fun j => if j < i then some 0 else none)) ∧ Ext w2 wr) (fun s39 _ => ((N : Int) - intOf s39).toNat)
    case atStart => exact ⟨0, Nat.zero_le _, rfl, HJ0, e3⟩
    case round =>
      obtain ⟨i, hi, rfl, hH, hE0⟩ := hrel
      clear HJ0 e3
      rcases Nat.eq_or_lt_of_le hi with hin | hin
      · subst hin
        have hlt : ¬ ((i : Int) < (i : Int)) := by omega
        have HJ : Hid (ScJ w wr g7 K i (fun j => if j < i then some (getV (m.take 0) (j : Int)) else none)) := Lib.hid (by
          have := hH.out
          rw [show (fun j : Nat => if j < i then some (getV (m.take 0) (j : Int)) else none) = (fun j => if j < i then some 0 else none) from funext fun j => by rw [List.take_zero, getV_nil]]
          exact this)
        clear hH
        go_wp2_with fail
        go_loopw [49] (fun s49 wr => ∃ t : Nat, t ≤ 0 ∧ s49 = .int .i64 (t : Int) ∧ Hid (ScJ w wr g7 K i (fun j => if j < i then some (getV (m.take t) (j : Int)) else none)) ∧ Ext w2 wr) (fun s49 _ => ((0 : Int) - intOf s49).toNat)
        case atStart => exact ⟨0, Nat.zero_le _, rfl, HJ, hE0⟩
        case round =>
          obtain ⟨t, ht, rfl, hH, hE1⟩ := hrel
          clear HJ hE0
          rcases Nat.eq_or_lt_of_le ht with htn | htn
          · have htm : m.take t = m := by rw [htn, HMN0.out, List.take_length]
            have hR : ScR w.heap.size K wr (.slice (some ⟨g7, 0, none⟩) i i) l (i : Int) := by
              refine ⟨fun _ => ?_, fun h => by rw [hOK.out] at h; cases h⟩
              obtain ⟨-, vs, j1, j2, j3, j4⟩ := hH.out
              have hL := LS.of_hold (e := 30) (n := 3) (B := w.heap.size) (w := wr) (vs := vs) (g := g7) (cap := i) (rest := []) j2 (by omega) (by omega) (by omega) (by rw [j3]; simp) (by rw [List.append_nil]; exact j1)
              rw [j3] at hL
              rw [Int.toNat_natCast]
              refine ⟨vs, hL, by rw [scL_len, j3], fun j u x hu hx => j4 j u x hu ?_⟩
              have hji : j < i := by have := (List.getElem?_eq_some_iff.1 hu).1; omega
              rw [scL_get l hji] at hx
              simp only
              rw [if_pos hji, htm, HM.out, mkV_get]
              exact hx
            have HR := Lib.hid hR
            have HEE := Lib.hid (e2.trans hE1)
            have hlt2 : ¬ ((t : Int) < (0 : Int)) := by omega
            clear hR hH htm hmk HCS hE1 e2
            go_wp2
            go_ret2
            exact ⟨_, by rw [hOK.out] <;> rfl, HR.out, HEE.out⟩
          · exact absurd htn (Nat.not_lt_zero _)
      · have hlt : (i : Int) < (N : Int) := by omega
        go_wp2_with fail
        refine (rwhole_calls 0 _ (by omega) (by omega)).mono ?_
        rintro e w6 ⟨v6, rfl, q6, e6⟩
        obtain ⟨b6, a6, l6, k6, a6', l6', k6', rfl, q6⟩ := q6.opn
        obtain ⟨hEw, vs, j1, j2, j3, -⟩ := hH.out
        have hF : Hid (FrK w.heap.size K w6 (.agg #[.bool b6, .slice a6 l6 k6, .slice a6' l6' k6']) 0) := Lib.hid ⟨q6.mono hEw.size, by have := szQ0; have := HK.out; show szQ ((0 : Int) : Rat) ≤ K; omega⟩
        have hqq : Hid (∀ j : Nat, (if j < i + 1 then some (0 : Rat) else none) = if j = i then some 0 else (if j < i then some 0 else none)) := Lib.hid fun j => by
          by_cases hj : j = i
          · rw [if_pos (by omega), if_pos hj]
          · rw [if_neg hj]
            by_cases hji : j < i
            · rw [if_pos (by omega), if_pos hji]
            · rw [if_neg (by omega), if_neg hji]
        have hsz : (flatS vs).toArray.size = N * 3 := by rw [List.size_toArray, flatS_len j2.size, j3]
        have hb5 := j1.ext e6
        obtain ⟨y0, hk0⟩ : ∃ y, w6.cell? ⟨g7, i * 3, none⟩ = some y := ⟨_, by rw [hb5.cell]; exact Array.getElem?_eq_getElem (by omega)⟩
        obtain ⟨y1, hk1⟩ : ∃ y, w6.cell? ⟨g7, i * 3 + 1, none⟩ = some y := ⟨_, by rw [hb5.cell]; exact Array.getElem?_eq_getElem (by omega)⟩
        obtain ⟨y2, hk2⟩ : ∃ y, w6.cell? ⟨g7, i * 3 + 2, none⟩ = some y := ⟨_, by rw [hb5.cell]; exact Array.getElem?_eq_getElem (by omega)⟩
        have hf0 := hb5.free (i * 3)
        have hf1 := hb5.free (i * 3 + 1)
        have hf2 := hb5.free (i * 3 + 2)
        clear j1 j2 j3 hb5 hsz q6
        go_wp2
        go_roundw
        case rel =>
          refine ⟨i + 1, by omega, by simp, Lib.hid (hH.out.set e6 (by omega) hin hF.out hqq.out), ?_⟩
          exact (hE0.trans e6).step (Chg.trans (Chg.trans (Chg.setCell _ g7 _ _) (Chg.setCell _ g7 _ _)) (Chg.setCell _ g7 _ _)) hgw
        case measure => simp [intOf]; omega
  · obtain ⟨ln, hln⟩ : ∃ ln, ln = m0.length := ⟨_, rfl⟩
    have hmn1 : mn = ln + 1 := by rw [hmn, hm0, List.length_append, hln]; rfl
    have hmni : (mn : Int) - 1 = (ln : Int) := by omega
    have hmnp : (0 : Int) < (mn : Int) := by omega
    have hlt0 : ln < mn := by omega
    obtain ⟨g0, rfl, b0, a10, n10, c10, a20, n20, c20, hcell0, -, -⟩ := HAT.out ln (d, r) (by rw [hm0, List.getElem?_append_right (by omega), hln]; simp)
    obtain ⟨hlc, -, -, -⟩ := hcell0 w2 (Ext.refl _)
    have hsl := scOk_last (l := l) (n := (N : Int)) (by rw [← HM.out]; exact hm0) (by omega) (by omega)
    have HMN := Lib.hid hmn
    simp only at hlc
    by_cases h3 : (N : Int) ≤ d
    · have hS : Hid (scOk l (N : Int) = false) := Lib.hid (by rw [hsl]; exact decide_eq_false (by omega))
      clear hsl hm0 hln hmn hcell0
      go_wp2
      go_ret2
      exact ⟨_, by rw [hS.out] <;> rfl, ⟨fun h => (by rw [hS.out] at h; cases h), fun _ => rfl⟩, e2⟩
    · have hOK : Hid (scOk l (N : Int) = true) := Lib.hid (by rw [hsl]; exact decide_eq_true (by omega))
      clear hsl hm0 hln hmn hcell0 hmn1
      have hN9 : (N : Int) ≤ 300 := by omega
      obtain ⟨w3, hw3⟩ : ∃ w3, w3 = w2.alloc (.cells CS 30) := ⟨_, rfl⟩
      have e3 : Ext w2 w3 := hw3 ▸ (Ext.refl _).alloc _
      have HJ : ScJ w w3 w2.heap.size K N (fun j => if j < 0 then some 0 else none) := ⟨e2.trans e3, List.replicate N zRat, by rw [← HCS.out]; exact hw3 ▸ Bx.new w2 _ CS, strN_zero N, List.length_replicate .., fun j u x _ h => by simp at h⟩
      have HJ0 := Lib.hid HJ
      have hs2 := e2.size
      go_wp2_with fail
      rw [← hw3]
      obtain ⟨g7, hg7⟩ : ∃ g7, g7 = w2.heap.size := ⟨_, rfl⟩
      rw [← hg7] at HJ0 hs2 ⊢
      have hgw : w2.heap.size ≤ g7 := by omega
      clear HJ hw3 hg7
      go_loopw [39] (fun s39 wr => ∃ i : Nat, i ≤ N ∧ s39 = .int .i64 (i : Int) ∧ Hid (ScJ w wr g7 K N (fun j => if j < i then some 0 else none)) ∧ Ext w2 wr) (fun s39 _ => ((N : Int) - intOf s39).toNat)
      case atStart => exact ⟨0, Nat.zero_le _, rfl, HJ0, e3⟩
      case round =>
        obtain ⟨i, hi, rfl, hH, hE0⟩ := hrel
        clear HJ0 e3
        rcases Nat.eq_or_lt_of_le hi with hin | hin
        · subst hin
          have hlt : ¬ ((i : Int) < (i : Int)) := by omega
          have HJ : Hid (ScJ w wr g7 K i (fun j => if j < i then some (getV (m.take 0) (j : Int)) else none)) := Lib.hid (by
            have := hH.out
            rw [show (fun j : Nat => if j < i then some (getV (m.take 0) (j : Int)) else none) = (fun j => if j < i then some 0 else none) from funext fun j => by rw [List.take_zero, getV_nil]]
            exact this)
          clear hH
          go_wp2_with fail
          go_loopw [49] (fun s49 wr => ∃ t : Nat, t ≤ mn ∧ s49 = .int .i64 (t : Int) ∧ Hid (ScJ w wr g7 K i (fun j => if j < i then some (getV (m.take t) (j : Int)) else none)) ∧ Ext w2 wr) (fun s49 _ => ((mn : Int) - intOf s49).toNat)
          case atStart => exact ⟨0, Nat.zero_le _, rfl, HJ, hE0⟩
          case round =>
            obtain ⟨t, ht, rfl, hH, hE1⟩ := hrel
            clear HJ hE0
            rcases Nat.eq_or_lt_of_le ht with htn | htn
            · have htm : m.take t = m := by rw [htn, HMN.out, List.take_length]
              have hR : ScR w.heap.size K wr (.slice (some ⟨g7, 0, none⟩) i i) l (i : Int) := by
                refine ⟨fun _ => ?_, fun h => by rw [hOK.out] at h; cases h⟩
                obtain ⟨-, vs, j1, j2, j3, j4⟩ := hH.out
                have hL := LS.of_hold (e := 30) (n := 3) (B := w.heap.size) (w := wr) (vs := vs) (g := g7) (cap := i) (rest := []) j2 (by omega) (by omega) (by omega) (by rw [j3]; simp) (by rw [List.append_nil]; exact j1)
                rw [j3] at hL
                rw [Int.toNat_natCast]
                refine ⟨vs, hL, by rw [scL_len, j3], fun j u x hu hx => j4 j u x hu ?_⟩
                have hji : j < i := by have := (List.getElem?_eq_some_iff.1 hu).1; omega
                rw [scL_get l hji] at hx
                simp only
                rw [if_pos hji, htm, HM.out, mkV_get]
                exact hx
              have HR := Lib.hid hR
              have HEE := Lib.hid (e2.trans hE1)
              have hlt2 : ¬ ((t : Int) < (mn : Int)) := by omega
              clear hR hH htm hmk HCS hE1 e2
              go_wp2
              go_ret2
              exact ⟨_, by rw [hOK.out] <;> rfl, HR.out, HEE.out⟩
            · have hlt2 : (t : Int) < (mn : Int) := by omega
              obtain ⟨⟨xc, xq⟩, hx⟩ : ∃ x, m[t]? = some x := ⟨_, List.getElem?_eq_getElem (by rw [← HMN.out]; exact htn)⟩
              obtain ⟨g, hg, b', a1, n1, c1, a2, n2, c2, hcell, hq, hz⟩ := HAT.out t _ hx
              simp only [Option.some.injEq, Addr.mk.injEq] at hg; obtain ⟨rfl, -⟩ := hg
              obtain ⟨hc0, hc1, hc2, hc3⟩ := hcell wr hE1
              have hmem := List.mem_of_getElem? hx
              have hxc0 := HUP.out.2 _ hmem
              have hxcN : xc < (i : Int) := by
                have := hOK.out
                unfold scOk at this
                simp only [Bool.and_eq_true, List.all_eq_true, decide_eq_true_eq] at this
                exact this.2 _ (by rw [← HM.out]; exact hmem)
              simp only at hxc0 hc0 hq hz
              obtain ⟨cn, rfl⟩ : ∃ cn : Nat, xc = (cn : Int) := ⟨xc.toNat, by omega⟩
              have hcn : cn < i := by omega
              have htk := take_next hx
              have hqq : Hid (∀ j : Nat, (if j < i then some (getV (m.take (t + 1)) (j : Int)) else none) = if j = cn then some xq else (if j < i then some (getV (m.take t) (j : Int)) else none)) := Lib.hid fun j => by
                have hut := HUP.out.take (t + 1)
                rw [htk] at hut ⊢
                rw [up_one hut]
                by_cases hj : j = cn
                · subst hj
                  rw [if_pos hcn, if_pos rfl, if_pos rfl]
                · rw [if_neg hj, if_neg (show ¬ (cn : Int) = (j : Int) by omega)]
              obtain ⟨w5, hw5, e5, b5, s5⟩ := alloc1 wr #[.int .i64 (cn : Int), .bool b', .slice a1 n1 c1, .slice a2 n2 c2] 50
              have hd0 := b5.cell 0
              have hd1 := b5.cell 1
              have hd2 := b5.cell 2
              have hd3 := b5.cell 3
              rw [hw5] at hd0 hd1 hd2 hd3
              have hF : Hid (FrK w.heap.size K w5 (.agg #[.bool b', .slice a1 n1 c1, .slice a2 n2 c2]) xq) := Lib.hid ⟨hq.ext (hE1.trans e5), by have := HK.out; omega⟩
              obtain ⟨-, vs, j1, j2, j3, -⟩ := hH.out
              have hsz : (flatS vs).toArray.size = i * 3 := by rw [List.size_toArray, flatS_len j2.size, j3]
              have hb5 := j1.ext e5
              obtain ⟨y0, hk0⟩ : ∃ y, w5.cell? ⟨g7, cn * 3, none⟩ = some y := ⟨_, by rw [hb5.cell]; exact Array.getElem?_eq_getElem (by omega)⟩
              obtain ⟨y1, hk1⟩ : ∃ y, w5.cell? ⟨g7, cn * 3 + 1, none⟩ = some y := ⟨_, by rw [hb5.cell]; exact Array.getElem?_eq_getElem (by omega)⟩
              obtain ⟨y2, hk2⟩ : ∃ y, w5.cell? ⟨g7, cn * 3 + 2, none⟩ = some y := ⟨_, by rw [hb5.cell]; exact Array.getElem?_eq_getElem (by omega)⟩
              have hf0 := hb5.free (cn * 3)
              have hf1 := hb5.free (cn * 3 + 1)
              have hf2 := hb5.free (cn * 3 + 2)
              rw [hw5] at hk0 hk1 hk2 hf0 hf1 hf2
              have HW5 := Lib.hid hw5
              clear hx hcell hq hz hmem htk j1 j2 j3 hb5 hw5 b5 s5 hsz
              go_wp2
              go_roundw
              case rel =>
                rw [← HW5.out]
                refine ⟨t + 1, by omega, by simp, Lib.hid (hH.out.set e5 (by omega) hcn hF.out hqq.out), ?_⟩
                exact (hE1.trans e5).step (Chg.trans (Chg.trans (Chg.setCell _ g7 _ _) (Chg.setCell _ g7 _ _)) (Chg.setCell _ g7 _ _)) hgw
              case measure => simp [intOf]; omega
        · have hlt : (i : Int) < (N : Int) := by omega
          go_wp2_with fail
          refine (rwhole_calls 0 _ (by omega) (by omega)).mono ?_
          rintro e w6 ⟨v6, rfl, q6, e6⟩
          obtain ⟨b6, a6, l6, k6, a6', l6', k6', rfl, q6⟩ := q6.opn
          obtain ⟨hEw, vs, j1, j2, j3, -⟩ := hH.out
          have hF : Hid (FrK w.heap.size K w6 (.agg #[.bool b6, .slice a6 l6 k6, .slice a6' l6' k6']) 0) := Lib.hid ⟨q6.mono hEw.size, by have := szQ0; have := HK.out; show szQ ((0 : Int) : Rat) ≤ K; omega⟩
          have hqq : Hid (∀ j : Nat, (if j < i + 1 then some (0 : Rat) else none) = if j = i then some 0 else (if j < i then some 0 else none)) := Lib.hid fun j => by
            by_cases hj : j = i
            · rw [if_pos (by omega), if_pos hj]
            · rw [if_neg hj]
              by_cases hji : j < i
              · rw [if_pos (by omega), if_pos hji]
              · rw [if_neg (by omega), if_neg hji]
          have hsz : (flatS vs).toArray.size = N * 3 := by rw [List.size_toArray, flatS_len j2.size, j3]
          have hb5 := j1.ext e6
          obtain ⟨y0, hk0⟩ : ∃ y, w6.cell? ⟨g7, i * 3, none⟩ = some y := ⟨_, by rw [hb5.cell]; exact Array.getElem?_eq_getElem (by omega)⟩
          obtain ⟨y1, hk1⟩ : ∃ y, w6.cell? ⟨g7, i * 3 + 1, none⟩ = some y := ⟨_, by rw [hb5.cell]; exact Array.getElem?_eq_getElem (by omega)⟩
          obtain ⟨y2, hk2⟩ : ∃ y, w6.cell? ⟨g7, i * 3 + 2, none⟩ = some y := ⟨_, by rw [hb5.cell]; exact Array.getElem?_eq_getElem (by omega)⟩
          have hf0 := hb5.free (i * 3)
          have hf1 := hb5.free (i * 3 + 1)
          have hf2 := hb5.free (i * 3 + 2)
          clear j1 j2 j3 hb5 hsz q6
          go_wp2
          go_roundw
          case rel =>
            refine ⟨i + 1, by omega, by simp, Lib.hid (hH.out.set e6 (by omega) hin hF.out hqq.out), ?_⟩
            exact (hE0.trans e6).step (Chg.trans (Chg.trans (Chg.setCell _ g7 _ _) (Chg.setCell _ g7 _ _)) (Chg.setCell _ g7 _ _)) hgw
          case measure => simp [intOf]; omega
end Go.Proofs.YtoodekggpbbogaaGreat

/-
  A number's memory written over: just which blocks may be harmed.
-/
namespace Go.Proofs.YtoodekggpbbogaaGreat
open Go.RowKit
set_option linter.unusedVariables false
set_option linter.unusedSimpArgs false

/-- From w to w' nothing changed but words in blocks of words from B0 on; and what is new is new. -/
def HurtP (Q : Nat → Prop) (w w' : World) : Prop := w'.os = w.os ∧ w'.tape = w.tape ∧ w'.output = w.output ∧ w.heap.size ≤ w'.heap.size ∧
  ∀ k, k < w.heap.size → w'.heap[k]? = w.heap[k]? ∨ (Q k ∧ ∃ cur cur', w.heap[k]? = some (.cells cur 81 (0, 0)) ∧ w'.heap[k]? = some (.cells cur' 81 (0, 0)) ∧ cur'.size = cur.size)
set_option maxRecDepth 100000 in
set_option maxHeartbeats 1000000 in
theorem HurtP.trans {Q : Nat → Prop} {a b c : World} (h : HurtP Q a b) (k : HurtP Q b c) : HurtP Q a c := by
  obtain ⟨h1, h2, h3, h4, h5⟩ := h
  obtain ⟨k1, k2, k3, k4, k5⟩ := k
  refine ⟨k1.trans h1, k2.trans h2, k3.trans h3, Nat.le_trans h4 k4, fun g hg => ?_⟩
  rcases h5 g hg with e1 | ⟨hb, cur, cur', c1, c2, c3⟩ <;> rcases k5 g (by omega) with e2 | ⟨hb2, dur, dur', d1, d2, d3⟩
  · exact .inl (e2.trans e1)
  · exact .inr ⟨hb2, dur, dur', e1 ▸ d1, d2, d3⟩
  · exact .inr ⟨hb, cur, cur', c1, e2.trans c2, c3⟩
  · refine .inr ⟨hb, cur, dur', c1, d2, ?_⟩
    rw [c2] at d1
    cases d1
    omega
set_option maxRecDepth 100000 in
set_option maxHeartbeats 1000000 in
theorem Ext.hurtsP {w w' : World} (Q : Nat → Prop) (h : Ext w w') : HurtP Q w w' := ⟨World.grownBy.os h, World.grownBy.tape h, World.grownBy.output h, h.size, fun k hk => .inl (h.heap hk)⟩
set_option maxRecDepth 100000 in
set_option maxHeartbeats 1000000 in
theorem Ext.hurtP {Q : Nat → Prop} {a w w' : World} (h : Ext a w) (k : HurtP Q w w') (hB : ∀ k, Q k → a.heap.size ≤ k) : Ext a w' := by
  obtain ⟨k1, k2, k3, k4, k5⟩ := k
  refine ⟨k1.trans (World.grownBy.os h), k2.trans (World.grownBy.tape h), k3.trans (World.grownBy.output h), Nat.le_trans h.size k4, fun g hg _ => ?_⟩
  have := h.size
  rcases k5 g (by omega) with e1 | ⟨hb, -⟩
  · exact e1.trans (h.heap hg)
  · have := hB g hb; omega
set_option maxRecDepth 100000 in
set_option maxHeartbeats 1000000 in
theorem Bx.hurtP {Q : Nat → Prop} {t : TypeId} {w w' : World} {g : Nat} {cs : Array Value} (h : Bx t w g cs) (he : HurtP Q w w') (ht : t ≠ 81) : Bx t w' g cs := by
  rcases he.2.2.2.2 g (blk_lt h) with e1 | ⟨-, cur, cur', c1, -⟩
  · exact e1.trans h
  · unfold Bx at h
    rw [h] at c1
    cases c1
    exact absurd rfl ht
set_option maxRecDepth 100000 in
set_option maxHeartbeats 1000000 in
theorem HurtP.setCell {Q : Nat → Prop} {g i : Nat} {w : World} {cur : Array Value} (h : w.heap[g]? = some (.cells cur 81 (0, 0))) (hB : Q g) (u : Value) : HurtP Q w (w.setCell ⟨g, i, none⟩ u) := by
  have hc := Chg.setCell w g i u
  refine ⟨World.grownBy.os hc, World.grownBy.tape hc, World.grownBy.output hc, hc.size, fun k hk => ?_⟩
  by_cases hkg : k = g
  · subst hkg
    exact .inr ⟨hB, cur, _, h, heap_setCell_same w k i _ _ _ h, by simp⟩
  · exact .inl (hc.heap hk hkg)

/-- A slice of words, whatever they are, in a block from B0 on. -/
def ShpP (Q : Nat → Prop) (w : World) (s : Value) : Prop := ∃ ad l cap, s = .slice ad l cap ∧ l ≤ 9223372036854775807 ∧ (l = 0 ∨ ∃ g cur, ad = some ⟨g, 0, none⟩ ∧ Q g ∧ w.heap[g]? = some (.cells cur 81 (0, 0)) ∧ l ≤ cur.size)
def ShpR (Q : Nat → Prop) (w : World) (v : Value) : Prop := ∃ b s t, v = .agg #[.bool b, s, t] ∧ ShpP Q w s ∧ ShpP Q w t
set_option maxRecDepth 100000 in
set_option maxHeartbeats 1000000 in
theorem ShpP.hurtP {Q Q1 : Nat → Prop} {w w' : World} {s : Value} (h : ShpP Q w s) (he : HurtP Q1 w w') : ShpP Q w' s := by
  obtain ⟨ad, l, cap, h1, h2, h3⟩ := h
  refine ⟨ad, l, cap, h1, h2, ?_⟩
  rcases h3 with h3 | ⟨g, cur, h3, h4, h5, h6⟩
  · exact .inl h3
  · rcases he.2.2.2.2 g (blk_lt h5) with e1 | ⟨-, cu, cu', c1, c2, c3⟩
    · exact .inr ⟨g, cur, h3, h4, e1.trans h5, h6⟩
    · rw [h5] at c1
      cases c1
      exact .inr ⟨g, cu', h3, h4, c2, by omega⟩
set_option maxRecDepth 100000 in
set_option maxHeartbeats 1000000 in
theorem ShpR.hurtP {Q Q1 : Nat → Prop} {w w' : World} {v : Value} (h : ShpR Q w v) (he : HurtP Q1 w w') : ShpR Q w' v := by
  obtain ⟨b, s, t, h1, h2, h3⟩ := h
  exact ⟨b, s, t, h1, h2.hurtP he, h3.hurtP he⟩
set_option maxRecDepth 100000 in
set_option maxHeartbeats 1000000 in
theorem FrL.shpP {k : IntKind} {B0 B1 : Nat} {w : World} {s : Value} {xs : List Nat} (h : FrL 81 k B0 w s xs) (hB : w.heap.size ≤ B1) : ShpP (fun k => B0 ≤ k ∧ k < B1) w s := by
  obtain ⟨ad, cap, h1, h2, h3, h4⟩ := h
  refine ⟨ad, _, cap, h1, by omega, ?_⟩
  rcases h4 with ⟨h4, -⟩ | ⟨g, cur, h4, h5, h6, h7, -⟩
  · exact .inl (by rw [vals_nil.1 h4]; rfl)
  · exact .inr ⟨g, cur, h4, ⟨h5, Nat.lt_of_lt_of_le (blk_lt h6) hB⟩, h6, by omega⟩
set_option maxRecDepth 100000 in
set_option maxHeartbeats 1000000 in
theorem FrQ.shpP {B0 B1 : Nat} {w : World} {v : Value} {q : Rat} (h : FrQ B0 w v q) (hB : w.heap.size ≤ B1) : ShpR (fun k => B0 ≤ k ∧ k < B1) w v := by
  obtain ⟨s, t, h1, h2, h3⟩ := h
  exact ⟨_, s, t, h1, FrL.shpP h2 hB, FrL.shpP h3 hB⟩
set_option maxRecDepth 100000 in
set_option maxHeartbeats 1000000 in
/-- What lies behind those blocks stays. -/
theorem FrL.hurtP {e : TypeId} {k : IntKind} {B : Nat} {Q : Nat → Prop} {w w' : World} {s : Value} {xs : List Nat} (h : FrL e k B w s xs) (he : HurtP Q w w') (hQ : ∀ k, Q k → k < B) : FrL e k B w' s xs := by
  obtain ⟨ad, cap, h1, h2, h3, h4⟩ := h
  refine ⟨ad, cap, h1, h2, h3, ?_⟩
  rcases h4 with h4 | ⟨g, cur, h4, h5, h6, h7⟩
  · exact .inl h4
  · refine .inr ⟨g, cur, h4, h5, ?_, h7⟩
    rcases he.2.2.2.2 g (blk_lt h6) with e1 | ⟨hb, -⟩
    · exact e1.trans h6
    · have := hQ g hb
      omega
set_option maxRecDepth 100000 in
set_option maxHeartbeats 1000000 in
theorem FrQ.hurtP {B : Nat} {Q : Nat → Prop} {w w' : World} {v : Value} {q : Rat} (h : FrQ B w v q) (he : HurtP Q w w') (hQ : ∀ k, Q k → k < B) : FrQ B w' v q := by
  obtain ⟨s, t, h1, h2, h3⟩ := h
  exact ⟨s, t, h1, h2.hurtP he hQ, h3.hurtP he hQ⟩
set_option maxRecDepth 100000 in
set_option maxHeartbeats 1000000 in
theorem HurtP.refl (Q : Nat → Prop) (w : World) : HurtP Q w w := ⟨rfl, rfl, rfl, Nat.le_refl _, fun k hk => .inl rfl⟩

set_option maxRecDepth 100000 in
set_option maxHeartbeats 1000000 in
theorem spoilP_calls (v : Value) (Q : Nat → Prop) (w : World) (hv : ShpR Q w v) :
    Calls Tryz.prog 18 #[v] w fun e w' => e = .returned (.tuple #[]) ∧ HurtP Q w w' := by
  obtain ⟨b, s, t, rfl, hs, ht⟩ := hv
  obtain ⟨ad, l, cap, rfl, hl, hs1⟩ := hs
  obtain ⟨ad2, m, cap2, rfl, hm, ht1⟩ := ht
  go_enter Tryz.func18, Tryz.ntmps18
  obtain ⟨w1, hw1, e1, b1, s1⟩ := alloc1 w #[.bool b, .slice ad l cap, .slice ad2 m cap2] 30
  go_wp2_with fail
  rw [← hw1]
  have H1 := e1.hurtsP Q
  go_loopw [2] (fun i wr => ∃ k : Nat, k ≤ l ∧ i = .int .i64 (k : Int) ∧ HurtP Q w wr ∧ Bx 30 wr w.heap.size #[.bool b, .slice ad l cap, .slice ad2 m cap2]) (fun i _ => ((l : Int) - intOf i).toNat)
  case atStart => exact ⟨0, Nat.zero_le _, rfl, H1, b1⟩
  case round =>
    obtain ⟨k, hk, rfl, hH, hB⟩ := hrel
    have hc0 := hB.cell 0
    have hc1 := hB.cell 1
    have hc2 := hB.cell 2
    rcases Nat.eq_or_lt_of_le hk with hkl | hkl
    · subst hkl
      go_wp2_with fail
      clear hc0 hc1 hc2
      go_loopw [3] (fun i wr => ∃ j : Nat, j ≤ m ∧ i = .int .i64 (j : Int) ∧ HurtP Q w wr ∧ Bx 30 wr w.heap.size #[.bool b, .slice ad k cap, .slice ad2 m cap2]) (fun i _ => ((m : Int) - intOf i).toNat)
      case atStart => exact ⟨0, Nat.zero_le _, rfl, hH, hB⟩
      case round =>
        obtain ⟨j, hj, rfl, hH2, hB2⟩ := hrel
        have hc0 := hB2.cell 0
        have hc1 := hB2.cell 1
        have hc2 := hB2.cell 2
        rcases Nat.eq_or_lt_of_le hj with hjl | hjl
        · subst hjl
          go_wp2
          go_end0
          exact ⟨rfl, hH2⟩
        · have hsh : ShpP Q _ _ := ShpP.hurtP (s := .slice ad2 m cap2) ⟨_, _, _, rfl, hm, ht1⟩ hH2
          obtain ⟨_, _, _, hsl, -, hsg⟩ := hsh
          cases hsl
          obtain ⟨g, cur, rfl, hg, hh, hcs⟩ := hsg.resolve_left (by omega)
          have hcg := cell_of_row _ g j cur _ _ hh
          rw [Array.getElem?_eq_getElem (by omega)] at hcg
          have hfg := frozen_of_row _ g j _ _ hh
          go_wp2
          go_roundw
          case rel => exact ⟨j + 1, by omega, by simp, hH2.trans (HurtP.setCell hh hg _), hB2.hurtP (HurtP.setCell hh hg _) (by decide)⟩
          case measure => simp [intOf]; omega
    · have hsh : ShpP Q _ _ := ShpP.hurtP (s := .slice ad l cap) ⟨_, _, _, rfl, hl, hs1⟩ hH
      obtain ⟨_, _, _, hsl, -, hsg⟩ := hsh
      cases hsl
      obtain ⟨g, cur, rfl, hg, hh, hcs⟩ := hsg.resolve_left (by omega)
      have hcg := cell_of_row _ g k cur _ _ hh
      rw [Array.getElem?_eq_getElem (by omega)] at hcg
      have hfg := frozen_of_row _ g k _ _ hh
      go_wp2
      go_roundw
      case rel => exact ⟨k + 1, by omega, by simp, hH.trans (HurtP.setCell hh hg _), hB.hurtP (HurtP.setCell hh hg _) (by decide)⟩
      case measure => simp [intOf]; omega
end Go.Proofs.YtoodekggpbbogaaGreat

/-
  The document's Scatter; a list's numbers written over.
-/
namespace Go.Proofs.YtoodekggpbbogaaGreat
open Go.RowKit
set_option linter.unusedVariables false
set_option linter.unusedSimpArgs false

set_option maxRecDepth 100000 in
set_option maxHeartbeats 1000000 in
theorem scL_succ (l : List (Int × Rat)) (i : Nat) : scL l (i + 1) = scL l i ++ [getV l (i : Int)] := by
  unfold scL
  rw [List.range_succ, List.map_append]
  rfl
set_option maxRecDepth 100000 in
set_option maxHeartbeats 1000000 in
theorem FrK.grow {B k : Nat} {w w' : World} {v : Value} {q : Rat} {lv : Value} {vs : List Value} (h : FrK B k w v q) (hls : LS 30 3 B w lv vs) (hg : w.grownBy w' lv.ownBlock) : FrK B k w' v q := by
  rcases hls.2.2 with ⟨h1, h2⟩ | ⟨g', cap', cur, h1, h2, h3, h4⟩
  · rw [h1] at hg
    exact h.ext hg
  · rw [h1] at hg
    exact ⟨h.1.chgB hg h3 (by decide), h.2⟩
set_option maxRecDepth 100000 in
set_option maxHeartbeats 1000000 in
theorem OL.slq {B k : Nat} {w : World} {v : Value} {qs : List Rat} (h : OL 30 3 B (FrK B k) w v qs) (hk : k ≤ LIM) : SLQ w v (qs.map fmQ) := by
  obtain ⟨vs, h1, h2, h3⟩ := h
  refine OL.sl (t := 30) (B := B) ⟨vs, h1, by rw [List.length_map]; exact h2, fun i u y hu hy => ?_⟩ (by omega)
  rw [List.getElem?_map] at hy
  cases hq : qs[i]? with
  | none => rw [hq] at hy; cases hy
  | some q =>
    rw [hq] at hy
    simp only [Option.map_some, Option.some.injEq] at hy
    subst hy
    have := h3 i u q hu hq
    exact this.1.rawE (by have := this.2; omega)
set_option maxRecDepth 100000 in
set_option maxHeartbeats 1000000 in
theorem OL.ql {B k : Nat} {w : World} {v : Value} {qs : List Rat} (h : OL 30 3 B (FrK B k) w v qs) (hk : k ≤ LIM) : QL k w v qs := (OL.sl h (by omega)).map fun u y hu => hu.1.isR hu.2 hk
def Sc5 (w : World) (v : Value) (l : List (Int × Rat)) (n : Int) : Prop := (scOk l n = true → SLQ w v ((scL l n.toNat).map fmQ)) ∧ (scOk l n = false → SLQ w v [])
set_option maxRecDepth 100000 in
set_option maxHeartbeats 1000000 in
theorem SLQ.nil0 (w : World) (ad : Option Addr) (c : Nat) (hc : c ≤ 9223372036854775807) : SLQ w (.slice ad 0 c) [] := ⟨ad, c, rfl, by simp, hc, .inl rfl⟩

set_option maxRecDepth 100000 in
set_option maxHeartbeats 8000000 in
theorem scatter5_calls (k : Nat) (v : Value) (nI : Int) (l : List (Int × Rat)) (w : World) (hl : TL k w v l) (hk : k ≤ 1000) (hn : l.length ≤ 1000) (hb : nI ≤ 300 ∨ 65536 < nI) :
    Calls Tryz.prog 31 #[v, .int .i64 nI] w fun e w' => ∃ v', e = .returned (.tuple #[v', .int .i64 (scE (scOk l nI))]) ∧ Sc5 w' v' l nI ∧ Ext w w' := by
  have lim : (2000000 : Nat) ≤ LIM := by rw [LIM_eq]; omega
  obtain ⟨K, hK⟩ : ∃ K, K = l.length * (k + 1) + 1 := ⟨_, rfl⟩
  have hKb : K ≤ 1001001 := by
    have : l.length * (k + 1) ≤ 1000 * 1001 := Nat.mul_le_mul hn (by omega)
    omega
  have HL := Lib.hid hl
  have HNL := Lib.hid hn
  have HSZ : Hid (∀ c, szQ (getV l c) ≤ K) := Lib.hid fun c => by rw [hK]; exact sz_get hl.szs c
  have HK := Lib.hid hK
  have eb := emptyQ
  clear hl hn hK
  go_enter Tryz.func31, Tryz.ntmps31
  obtain ⟨w1, hw1⟩ : ∃ w1, w1 = w.alloc (.cells #[] 30) := ⟨_, rfl⟩
  have e1 : Ext w w1 := hw1 ▸ (Ext.refl _).alloc _
  have L1 : LS 30 3 w.heap.size w1 (.slice (some ⟨w.heap.size, 0, none⟩) 0 0) [] := hw1 ▸ LS.empty _ _ _ _ (Nat.le_refl _)
  go_wp2_with fail
  rw [← hw1]
  refine (make5_calls k _ l w1 (HL.out.ext e1) hk HNL.out).mono ?_
  rw [← HK.out]
  rintro e w2 ⟨v2, rfl, t2, e2⟩
  obtain ⟨m, hm⟩ : ∃ m, m = mkV l := ⟨_, rfl⟩
  rw [← hm] at t2
  obtain ⟨ad, cap, rfl, hmn9, hat⟩ := t2.at
  obtain ⟨mn, hmn⟩ : ∃ x, x = m.length := ⟨_, rfl⟩
  rw [← hmn] at hmn9 ⊢
  have HM := Lib.hid hm
  have HMN := Lib.hid hmn
  have HAT := Lib.hid hat
  have L2 := Lib.hid (L1.ext e2)
  have E2 := e1.trans e2
  clear hm hmn hat t2 L1 hw1 e1 e2
  by_cases h1 : nI < 0
  · have hS : Hid (scOk l nI = false) := Lib.hid (scOk_neg h1)
    go_wp2
    go_ret2
    exact ⟨_, by rw [hS.out] <;> rfl, ⟨fun h => (by rw [hS.out] at h; cases h), fun _ => SLQ.nil0 _ _ _ (by omega)⟩, E2⟩
  by_cases h2 : 65536 < nI
  · have hS : Hid (scOk l nI = false) := Lib.hid (scOk_big h2)
    go_wp2
    go_ret2
    exact ⟨_, by rw [hS.out] <;> rfl, ⟨fun h => (by rw [hS.out] at h; cases h), fun _ => SLQ.nil0 _ _ _ (by omega)⟩, E2⟩
  obtain ⟨N, rfl⟩ : ∃ N : Nat, nI = (N : Int) := ⟨nI.toNat, by omega⟩
  have hN : N ≤ 300 := by omega
  clear hb
  go_wp2_with fail
  go_loopw [8] (fun s8 wr => ∃ i : Nat, i ≤ mn ∧ s8 = .int .i64 (i : Int) ∧ Hid (∀ x ∈ m.take i, x.1 < (N : Int)) ∧ wr = w2) (fun s8 _ => ((mn : Int) - intOf s8).toNat)
  case atStart => exact ⟨0, Nat.zero_le _, rfl, Lib.hid fun x hx => (by simp at hx), rfl⟩
  case round =>
    obtain ⟨i, hi, rfl, hH, rfl⟩ := hrel
    rcases Nat.eq_or_lt_of_le hi with hin | hin
    · have hOK : Hid (scOk l (N : Int) = true) := Lib.hid (by
        unfold scOk
        rw [decide_eq_true (by omega), decide_eq_true (by omega), ← HM.out]
        simp only [Bool.and_self, Bool.true_and, List.all_eq_true, decide_eq_true_eq]
        have := hH.out
        rwa [hin, HMN.out, List.take_length] at this)
      have hlt : ¬ ((i : Int) < (mn : Int)) := by omega
      clear hH
      go_wp2_with fail
      go_loopw [6, 9] (fun s6 s9 wr' => ∃ (c : Nat) (ado : Option Addr) (capo : Nat), c ≤ N ∧ s9 = .int .i64 (c : Int) ∧ s6 = .slice ado c capo ∧ Hid (OL 30 3 w.heap.size (FrK w.heap.size K) wr' (.slice ado c capo) (scL l c)) ∧ Ext w wr') (fun _ s9 _ => ((N : Int) - intOf s9).toNat)
      case atStart => exact ⟨0, _, _, Nat.zero_le _, rfl, rfl, Lib.hid ⟨[], L2.out, rfl, fun i u y h => by simp at h⟩, E2⟩
      case round =>
        obtain ⟨c, ado, capo, hc, rfl, rfl, hS, hE0⟩ := hrel
        rcases Nat.eq_or_lt_of_le hc with hcn | hcn
        · subst hcn
          have hlt2 : ¬ ((c : Int) < (c : Int)) := by omega
          have hT := Lib.hid (hS.out.slq (by omega))
          clear hS
          go_wp2
          go_ret2
          exact ⟨_, by rw [hOK.out] <;> rfl, ⟨fun _ => hT.out, fun h => (by rw [hOK.out] at h; cases h)⟩, hE0⟩
        · have hlt2 : (c : Int) < (N : Int) := by omega
          obtain ⟨vs, hls, hvl, hvs⟩ := hS.out
          have hvi : vs.length = c := by rw [hvl, scL_len]
          subst hvi
          have HLS := Lib.hid hls
          have HV := Lib.hid (And.intro hvl hvs)
          have hwr := hE0.size
          have HZ := Lib.hid (HSZ.out (vs.length : Int))
          obtain ⟨q, hq⟩ : ∃ q, q = getV l (vs.length : Int) := ⟨_, rfl⟩
          rw [← hq] at HZ
          have HQ := Lib.hid hq
          clear hls hvl hvs hS hq
          go_wp2_with fail
          refine (get5_calls k _ (vs.length : Int) l _ (HL.out.ext hE0) hk (by have := HNL.out; omega)).mono ?_
          rw [← HQ.out]
          rintro e w5 ⟨v5, rfl, q5, z5, e5⟩
          have hz5 : szD q ≤ 68719476736 := by
            have h1 := HNL.out
            have h2 : l.length * (5 * k + 1) ≤ 1000 * 5001 := Nat.mul_le_mul (by omega) (by omega)
            omega
          go_wp2_with fail
          refine (rqto3_calls _ q w5 q5.cq hz5).mono ?_
          rintro e w6 ⟨v6, rfl, q6, e6⟩
          obtain ⟨b6, a6, l6, k6, a6', l6', k6', rfl, q6⟩ := q6.opn
          have e56 := e5.trans e6
          have hs6 := e56.size
          have hs5 := e5.size
          have HF := Lib.hid (show FrK w.heap.size K w6 _ q from ⟨q6.mono (by omega), HZ.out⟩)
          clear q5 z5 q6 e5 e6
          go_wp2_with (first
            | (at_builtin; go_loud (refine wpList_append_LS rfl _ _ 44 rfl 30 3 56 w.heap.size Tryz.underlying44 (by kernel_rfl) (by kernel_rfl) (by omega) _ vs rfl (HLS.out.ext (e56.trans ((Ext.refl _).alloc _))) ⟨w6.heap.size, 0, none⟩ #[.bool b6, .slice a6 l6 k6, .slice a6' l6' k6'] rfl rfl (news_new _ _ _) (by kernel_rfl) (by omega) (by omega) (by rw [alloc_size]; omega) ?_); intro g' cap2' w7 hls7 hg7 hwh7 hlt7)
            | fail)
          go_roundw
          case rel =>
            have hA := (Ext.refl w6).alloc (.cells #[.bool b6, .slice a6 l6 k6, .slice a6' l6' k6'] 30)
            have hLA := HLS.out.ext (e56.trans hA)
            refine ⟨vs.length + 1, some ⟨g', 0, none⟩, cap2', by omega, by simp, rfl, Lib.hid ?_, ((hE0.trans e56).trans hA).stepG hg7 HLS.out.ge⟩
            rw [scL_succ, ← HQ.out]
            exact OL.app (w := w6.alloc (.cells #[.bool b6, .slice a6 l6 k6, .slice a6' l6' k6'] 30)) HV.out.1 (fun i u y h1 h2 => (HV.out.2 i u y h1 h2).ext (e56.trans hA)) hls7 (fun u y h => FrK.grow h hLA hg7) (FrK.grow (HF.out.ext hA) hLA hg7)
          case measure => simp [intOf]; omega
    · have hlt : (i : Int) < (mn : Int) := by omega
      obtain ⟨⟨xc, xq⟩, hx⟩ : ∃ x, m[i]? = some x := ⟨_, List.getElem?_eq_getElem (by rw [← HMN.out]; exact hin)⟩
      obtain ⟨g, rfl, b', a1, n1, c1, a2, n2, c2, hcell, -, -⟩ := HAT.out i _ hx
      obtain ⟨hc0, -, -, -⟩ := hcell wr (Ext.refl _)
      simp only at hc0
      have HX := Lib.hid hx
      clear hcell hx
      by_cases hxn : (N : Int) ≤ xc
      · have hS : Hid (scOk l (N : Int) = false) := Lib.hid (by
          have hmem : (xc, xq) ∈ mkV l := by rw [← HM.out]; exact List.mem_of_getElem? HX.out
          have : (mkV l).all (fun x => decide (x.1 < (N : Int))) = false := List.all_eq_false.2 ⟨_, hmem, by simp; exact hxn⟩
          unfold scOk
          rw [this, Bool.and_false])
        go_wp2
        go_ret2
        exact ⟨_, by rw [hS.out] <;> rfl, ⟨fun h => (by rw [hS.out] at h; cases h), fun _ => SLQ.nil0 _ _ _ (by omega)⟩, E2⟩
      · have hS : Hid (∀ x ∈ m.take (i + 1), x.1 < (N : Int)) := Lib.hid (by
          rw [take_next HX.out]
          intro x hx
          rcases List.mem_append.1 hx with hx | hx
          · exact hH.out x hx
          · rw [List.mem_singleton] at hx
            subst hx
            show xc < (N : Int)
            omega)
        go_wp2
        go_roundw
        case rel => exact ⟨i + 1, by omega, by simp, hS, by first | trivial | rfl⟩
        case measure => simp [intOf]; omega
end Go.Proofs.YtoodekggpbbogaaGreat

/-
  The law VecScatters.
-/
namespace Go.Proofs.YtoodekggpbbogaaGreat
open Go.RowKit
set_option linter.unusedVariables false
set_option linter.unusedSimpArgs false

set_option maxRecDepth 100000 in
set_option maxHeartbeats 1000000 in
theorem TO.hurtP {B k : Nat} {Q : Nat → Prop} {w w' : World} {v : Value} {m : List (Int × Rat)} (h : TO B k w v m) (he : HurtP Q w w') (hQ : ∀ k, Q k → k < B) : TO B k w' v m := by
  obtain ⟨ts, h1, h2, h3⟩ := h
  refine ⟨ts, h1, ⟨h2.1, h2.2.1, ?_⟩, fun i t x h4 h5 => (let ⟨a, b, c⟩ := h3 i t x h4 h5; ⟨a, b.hurtP he hQ, c⟩)⟩
  rcases h2.2.2 with h6 | ⟨g, cap, cur, j1, j2, j3, j4⟩
  · exact .inl h6
  · exact .inr ⟨g, cap, cur, j1, j2, Bx.hurtP (t := 50) j3 he (by decide), j4⟩
set_option maxRecDepth 100000 in
set_option maxHeartbeats 1000000 in
theorem ShpR.ext {Q : Nat → Prop} {w w' : World} {v : Value} (h : ShpR Q w v) (he : Ext w w') : ShpR Q w' v := h.hurtP (he.hurtsP Q)

set_option maxRecDepth 100000 in
set_option maxHeartbeats 8000000 in
theorem vecScatters_calls (v : Value) (n : Int) (l : List TE) (w : World) (hv : TLE w v l) :
    Calls Tryz.prog 6 #[v, .int .i64 n] w fun e w' => e = .returned (.bool true) ∧ Ext w w' := by
  have lim : (100000 : Nat) ≤ LIM := by rw [LIM_eq]; omega
  have HV := Lib.hid hv
  clear hv
  go_enter Tryz.func6, Tryz.ntmps6
  go_wp2_with fail
  refine (speaks5_calls _).mono ?_
  rintro e w2 ⟨rfl, e2⟩
  go_wp2_with fail
  refine (great_calls _ l w2 (HV.out.ext e2)).mono ?_
  rintro e w3 ⟨rfl, e3⟩
  obtain ⟨p, hp⟩ : ∃ p, p = greatV l := ⟨_, rfl⟩
  rw [← hp]
  have HP := Lib.hid hp
  have E3 := e2.trans e3
  clear hp e2 e3
  cases p with
  | true =>
    go_wp2
    go_ret
    exact ⟨rfl, E3⟩
  | false =>
  by_cases hg : 300 < n ∧ n ≤ 65536
  · obtain ⟨hg1, hg2⟩ := hg
    have hg2' : ¬ 65536 < n := by omega
    go_wp2
    go_ret
    exact ⟨rfl, E3⟩
  have hb : n ≤ 300 ∨ 65536 < n := by omega
  have HB := Lib.hid hb
  obtain ⟨L, hL⟩ : ∃ L : List (Int × Rat), L = l.map fun e => (e.1, ratE e.2) := ⟨_, rfl⟩
  have hW : ∀ e ∈ l, wordsE e.2 ≤ 6 := fun e he => (greatE_not HP.out.symm).2 e.2 (List.mem_map_of_mem he)
  have hll : l.length ≤ 30 := by have := (greatE_not HP.out.symm).1; rwa [List.length_map] at this
  have hLl : L.length ≤ 30 := by rw [hL, List.length_map]; exact hll
  have TV := Lib.hid (show TL 6 w v L from by rw [hL]; exact HV.out.tl 6 (by omega) (by omega) hW)
  have HW := Lib.hid hW
  have HL := Lib.hid hL
  obtain ⟨s, hs⟩ : ∃ s, s = scE (scOk L n) := ⟨_, rfl⟩
  have HS := Lib.hid hs
  have key : ∀ (d : Bool), True := fun _ => trivial
  clear hW hL HP hs hb key
  rcases Int.lt_or_le 300 n with h300 | h300
  · have h656 : 65536 < n := by omega
    have h656' : ¬ n ≤ 65536 := by omega
    have hs2 : s = 2 := by rw [HS.out, scOk_big h656]; rfl
    have HS0 := Lib.hid (scOk_big (l := L) h656)
    go_wp2_with fail
    refine (copy5_calls _ l w3 (HV.out.ext E3) (by omega) HW.out).mono ?_
    rintro e w4 ⟨v4, rfl, hin, e4⟩
    have TI := Lib.hid (show TL 6 w4 v4 L from by rw [HL.out]; exact hin.tl 6 (by omega) (by omega) HW.out)
    have E4 := E3.trans e4
    clear hin e4
    go_wp2_with fail
    refine (scatter_calls 6 _ n L w4 TI.out (by omega) (by omega) HB.out).mono ?_
    rw [← HS.out]
    rintro e w5 ⟨v5, rfl, r5, e5⟩
    have hv5 := r5.2 HS0.out
    subst hv5
    have E5 := E4.trans e5
    clear r5
    go_wp2_with fail
    refine (scatter5_calls 6 _ n L w5 (TV.out.ext E5) (by omega) (by omega) HB.out).mono ?_
    rw [← HS.out]
    rintro e w6 ⟨v6, rfl, r6, e6⟩
    have R6 := Lib.hid (r6.2 HS0.out)
    subst hs2
    clear r6
    go_wp2_with fail
    refine (sameAll_true _ _ [] w6 (SLQ.nil0 _ _ _ (by omega)) R6.out).mono ?_
    rintro e w7 ⟨rfl, e7⟩
    go_wp2
    go_ret
    exact ⟨rfl, (E5.trans e6).trans e7⟩
  have h300' : ¬ 300 < n := by omega
  go_wp2_with fail
  refine (copy5_calls _ l w3 (HV.out.ext E3) (by omega) HW.out).mono ?_
  rintro e w4 ⟨v4, rfl, hin, e4⟩
  have HIN := Lib.hid hin
  have TI := Lib.hid (show TL 6 w4 v4 L from by rw [HL.out]; exact hin.tl 6 (by omega) (by omega) HW.out)
  have E4 := E3.trans e4
  clear hin e4 E3
  go_wp2_with fail
  refine (scatter_calls 6 _ n L w4 TI.out (by omega) (by omega) HB.out).mono ?_
  rw [← HS.out]
  rintro e w5 ⟨v5, rfl, r5, e5⟩
  have E5 := E4.trans e5
  have R5 := Lib.hid r5
  clear r5
  go_wp2_with fail
  refine (scatter5_calls 6 _ n L w5 (TV.out.ext E5) (by omega) (by omega) HB.out).mono ?_
  rw [← HS.out]
  rintro e w6 ⟨v6, rfl, r6, e6⟩
  have R6 := Lib.hid r6
  have E6 := E5.trans e6
  have E46 := e5.trans e6
  clear r6
  by_cases hsc : scOk L n = false
  · have hs2 : s = 2 := by rw [HS.out, hsc]; rfl
    have hv5 := R5.out.2 hsc
    have hv6 := Lib.hid (R6.out.2 hsc)
    subst hv5 hs2
    clear R5 R6 hsc
    go_wp2_with fail
    refine (sameAll_true _ _ [] w6 (SLQ.nil0 _ _ _ (by omega)) hv6.out).mono ?_
    rintro e w7 ⟨rfl, e7⟩
    go_wp2
    go_ret
    exact ⟨rfl, E6.trans e7⟩
  have hsc1 : scOk L n = true := by simpa using hsc
  have hs0 : s = 0 := by rw [HS.out, hsc1]; rfl
  have hn0 : 0 ≤ n := by
    unfold scOk at hsc1
    simp only [Bool.and_eq_true, decide_eq_true_eq] at hsc1
    exact hsc1.1.1
  obtain ⟨N, rfl⟩ : ∃ N : Nat, n = (N : Int) := ⟨n.toNat, by omega⟩
  have hO := R5.out.1 hsc1
  have hO6 := R6.out.1 hsc1
  rw [Int.toNat_natCast] at hO hO6
  have hob : OL 30 3 w4.heap.size (FrK w4.heap.size 211) w5 v5 (scL L N) := by
    obtain ⟨vs, a, b, c⟩ := hO
    exact ⟨vs, a, b, fun i u y h1 h2 => ⟨(c i u y h1 h2).1, by have := (c i u y h1 h2).2; omega⟩⟩
  have HO := Lib.hid hob
  have HO6 := Lib.hid hO6
  have HSC := Lib.hid hsc1
  subst hs0
  clear R5 R6 hsc hsc1 hO hO6 hob
  obtain ⟨vs, hls, hvl, hvs⟩ := HO.out
  rw [scL_len] at hvl
  obtain ⟨adx, capx, hv5, -, -, -⟩ := hls.opn
  rw [hvl] at hv5
  subst hv5
  have HLS := Lib.hid (And.intro hls (And.intro hvl hvs))
  clear hls hvl hvs
  go_wp2_with fail
  refine (sameAll_true _ _ _ w6 ((HO.out.slq (by omega)).ext e6) HO6.out).mono ?_
  rintro e w7 ⟨rfl, e7⟩
  have E57 := e6.trans e7
  have E7 := E6.trans e7
  have hs45 := e5.size
  have hs57 := E57.size
  clear HO6
  go_wp2_with fail
  refine (gather_calls 211 _ (scL L N) w7 ((HO.out.ql (by omega)).ext E57) (by rw [scL_len]; omega) (by rw [scL_len]; omega)).mono ?_
  rw [scL_len, sc_back HSC.out]
  rintro e w8 ⟨v8, rfl, t8, e8⟩
  have T8 := Lib.hid (t8.le (show _ ≤ 63600 by omega))
  have E58 := E57.trans e8
  have E48 := e5.trans E58
  have E8 := E7.trans e8
  clear t8 HO
  go_wp2_with fail
  go_loopw [53] (fun s53 wr => ∃ i : Nat, i ≤ N ∧ s53 = .int .i64 (i : Int) ∧ Hid (HurtP (fun k => w4.heap.size ≤ k ∧ k < w7.heap.size) w8 wr)) (fun s53 _ => ((N : Int) - intOf s53).toNat)
  case atStart => exact ⟨0, Nat.zero_le _, rfl, Lib.hid (HurtP.refl _ _)⟩
  case round =>
    obtain ⟨i, hi, rfl, hH⟩ := hrel
    rcases Nat.eq_or_lt_of_le hi with hin | hin
    · have hlt : ¬ ((i : Int) < (N : Int)) := by omega
      have E4R := Lib.hid (E48.hurtP hH.out fun k hk => hk.1)
      have ER := E4.trans E4R.out
      have TR := Lib.hid (T8.out.hurtP hH.out fun k hk => hk.2)
      clear hH
      go_wp2_with fail
      refine (make5_calls 6 _ L wr (TV.out.ext ER) (by omega) (by omega)).mono ?_
      rintro e w9 ⟨v9, rfl, t9, e9⟩
      have T9 := Lib.hid (t9.le (show _ ≤ 211 by omega))
      clear t9
      go_wp2_with fail
      refine (all_true _ _ _ w9 ((TR.out.ext e9).tle (by omega)) (T9.out.tle (by omega))).mono ?_
      rintro e wA ⟨rfl, eA⟩
      have E4A := (E4R.out.trans e9).trans eA
      clear T9
      go_wp2_with fail
      refine (all_true _ _ l wA (HIN.out.ext E4A) (HV.out.ext (E4.trans E4A))).mono ?_
      rintro e wB ⟨rfl, eB⟩
      go_wp2
      go_ret
      exact ⟨rfl, (E4.trans E4A).trans eB⟩
    · have hlt : (i : Int) < (N : Int) := by omega
      obtain ⟨hls, hvl, hvs⟩ := HLS.out
      obtain ⟨g, cap', rest, f1, f2, f3, f4, f5, f6⟩ := hls.hold (by rw [hvl]; omega)
      simp only [Value.slice.injEq] at f1
      obtain ⟨rfl, -, -⟩ := f1
      obtain ⟨u, hu⟩ : ∃ u, vs[i]? = some u := ⟨_, List.getElem?_eq_getElem (by omega)⟩
      have hF := (hvs i u _ hu (scL_get L hin)).1
      obtain ⟨b, a1, n1, c1, a2, n2, c2, rfl, hF⟩ := hF.opn
      have HSh := Lib.hid (((hF.ext E57).shpP (Nat.le_refl _)).ext e8 |>.hurtP hH.out)
      have hbR : Bx 30 wr g (flatS vs ++ rest).toArray := Bx.hurtP (Bx.ext (show Bx 30 w5 g _ from f6) E58) hH.out (by decide)
      have hel : ∀ j, j < 3 → (flatS vs ++ rest).toArray[i * 3 + j]? = (#[.bool b, .slice a1 n1 c1, .slice a2 n2 c2] : Array Value)[j]? := fun j hj => by
        have hlen := flatS_len hls.1.size
        rw [List.getElem?_toArray, List.getElem?_append_left (by rw [hlen]; omega)]
        exact flatS_get (n := 3) (by omega) hls.1.size hu j hj
      have hc0 : wr.cell? ⟨g, i * 3, none⟩ = some (.bool b) := by rw [hbR.cell]; exact hel 0 (by omega)
      have hc1 : wr.cell? ⟨g, i * 3 + 1, none⟩ = some (.slice a1 n1 c1) := by rw [hbR.cell]; exact hel 1 (by omega)
      have hc2 : wr.cell? ⟨g, i * 3 + 2, none⟩ = some (.slice a2 n2 c2) := by rw [hbR.cell]; exact hel 2 (by omega)
      clear hel hbR hF hu f6 f5 f4 f3 hls hvl hvs
      go_wp2_with fail
      refine (spoilP_calls _ _ wr HSh.out).mono ?_
      rintro e w9 ⟨rfl, h9⟩
      have H9 := Lib.hid (hH.out.trans h9)
      clear h9 hc0 hc1 hc2
      go_wp2
      go_roundw
      case rel => exact ⟨i + 1, by omega, by simp, H9⟩
      case measure => simp [intOf]; omega
end Go.Proofs.YtoodekggpbbogaaGreat
