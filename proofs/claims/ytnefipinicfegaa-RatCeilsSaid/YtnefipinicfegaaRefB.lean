/-
  The document's numbers: copies, sameness, comparison, sums.
-/
import Derived.Test.YtnefipinicfegaaRefA
namespace Go.Proofs.Ytnefipinicfegaa
open Go.RowKit
set_option linter.unusedVariables false
set_option linter.unusedSimpArgs false

set_option maxRecDepth 100000 in
set_option maxHeartbeats 1000000 in
/-- ref01.Copy: words as new memory. -/
theorem rcopy_calls (v : Value) (xs : List Nat) (w : World) (hv : IsL .u64 w v xs) (hl : xs.length ≤ 8796093022208) :
    Calls Try.prog 54 #[v] w fun e w' => ∃ v', e = .returned v' ∧ FrL 79 .u64 w.heap.size w' v' xs ∧ Ext w w' := by
  obtain ⟨ad, cap, rfl, hlc, hcap, hr⟩ := hv
  have eb := empty22
  have hf0 := frl_empty w 79 .u64
  have hal := (Ext.refl w).alloc (.cells #[] 79)
  go_enter Try.func54, Try.ntmps54
  go_wp2
  go_loopw [3, 4] (fun out i wr => ∃ m : Nat, m ≤ xs.length ∧ i = .int .i64 m ∧ FrL 79 .u64 w.heap.size wr out (xs.take m) ∧ Ext w wr) (fun _ i _ => xs.length - (intOf i).toNat)
  case atStart => exact ⟨0, by omega, rfl, by rw [List.take_zero]; exact hf0, hal⟩
  case round =>
    obtain ⟨m, hm, rfl, hfr, hex⟩ := hrel
    by_cases hlt : m < xs.length
    · obtain ⟨b, off, rfl, hcells⟩ := hr.at (by rw [vals_length]; omega)
      have hcm := hex.cell (hcells m _ (vals_get .u64 xs m (by omega)))
      have Hlm := Lib.hid (show (xs.take m).length = m by rw [List.length_take]; omega)
      have hsz := hex.size
      clear hcells
      go_wp2_with (at_builtin; refine wpList_append_fr _ rfl _ _ 22 rfl 79 .u64 8 Try.underlying22 info79 w.heap.size _ (xs.take m) [xs[m]] (some ⟨wr.heap.size, 0, none⟩) 1 1 rfl rfl rfl (hfr.alloc _) (Rd.new1 wr .u64 xs[m] _) (by rw [Hlm.out]; omega) (by rw [Hlm.out]; omega) (by simp; omega) ?_)
      intro v2 w2 hfr2 hgr2
      have hext2 := Ext.step_own (hex.alloc (.cells #[.int .u64 (xs[m] : Int)] 79)) hgr2 hfr.block
      go_wp2
      go_roundw
      case rel => exact ⟨m + 1, by omega, rfl, by first | exact hfr2 | simpa using hfr2, hext2⟩
      case measure => simp [intOf]; omega
    · have hme : m = xs.length := by omega
      subst hme
      rw [List.take_length] at hfr
      go_wp2
      go_ret
      exact ⟨_, rfl, hfr, hex⟩

set_option maxRecDepth 100000 in
set_option maxHeartbeats 1000000 in
/-- ref01.Same: are two lists of words one? -/
theorem rsame_calls (v u : Value) (xs ys : List Nat) (w : World) (hv : IsL .u64 w v xs) (hu : IsL .u64 w u ys) :
    Calls Try.prog 61 #[v, u] w fun e w' => e = .returned (.bool (decide (xs = ys))) ∧ Ext w w' := by
  obtain ⟨ad, cap, rfl, hlc, hcap, hr⟩ := hv
  obtain ⟨ad2, cap2, rfl, hlc2, hcap2, hr2⟩ := hu
  go_enter Try.func61, Try.ntmps61
  by_cases hll : xs.length = ys.length
  · have Hll := Lib.hid hll
    rw [← hll]
    clear hll
    go_wp2
    go_loopw [5] (fun i wr => ∃ k : Nat, k ≤ xs.length ∧ i = .int .i64 k ∧ Hid (xs.take k = ys.take k) ∧ Ext w wr) (fun i _ => xs.length - (intOf i).toNat)
    case atStart => exact ⟨0, by omega, rfl, by simp [Hid], Ext.refl _⟩
    case round =>
      obtain ⟨k, hk, rfl, ht, hex⟩ := hrel
      by_cases hlt : k < xs.length
      · obtain ⟨b, off, rfl, hcells⟩ := hr.at (by rw [vals_length]; omega)
        obtain ⟨b2, off2, rfl, hcells2⟩ := hr2.at (by rw [vals_length]; have := Hll.out; omega)
        have hky : k < ys.length := by have := Hll.out; omega
        have hcx := hex.cell (hcells k _ (vals_get .u64 xs k hlt))
        have hcy := hex.cell (hcells2 k _ (vals_get .u64 ys k hky))
        clear hcells hcells2
        by_cases he : xs[k] = ys[k]
        · have He := Lib.hid (show xs.take (k + 1) = ys.take (k + 1) by
            rw [List.take_succ_eq_append_getElem hlt, List.take_succ_eq_append_getElem hky, ht.out, he])
          rw [he] at hcx
          clear he
          go_wp2_with fail
          refine wp_region_puts [] [PP.val (.slice (some ⟨b, off, none⟩) xs.length cap), PP.val (.int .i64 k), PP.val (.pointer (some ⟨b, off + k, none⟩)), PP.val (.int .u64 (ys[k] : Int)), PP.val (.slice (some ⟨b2, off2, none⟩) xs.length cap2), PP.val (.int .i64 k), PP.val (.pointer (some ⟨b2, off2 + k, none⟩)), PP.val (.int .u64 (ys[k] : Int)), PP.val (.bool false)] [] [0, 1, 2, 3, 4, 5, 6, 7, 8]
            (by kernel_rfl) (by kernel_rfl) (fun f => (by simp only [fillR, fillL, List.setIfInBounds_toArray, List.set_cons_succ, List.set_cons_zero, Nat.reduceAdd]; rfl)) ?_ ?_ ?_ ?_ ?_
          · intro x hx; cases hx
          · intro x hx; cases hx
          · intro x hx; cases hx
          · refine ⟨?o0, ?o1, ?o2, ?o3, ?o4, ?o5, ?o6, ?o7, ?o8, trivial⟩
            case o0 =>
              intro f w2 hG hp hl
              have hE : Ext wr w2 := hG
              have hS := hE.size
              simp only [OpGoal]
              go_simp
              exact ⟨_, rfl, Ext.refl _, rfl⟩
            case o1 =>
              intro f w2 hG hp hl
              have hE : Ext wr w2 := hG
              have hS := hE.size
              simp only [OpGoal]
              go_simp
              exact ⟨_, rfl, Ext.refl _, rfl⟩
            case o2 =>
              intro f w2 hG hp hl
              have hE : Ext wr w2 := hG
              have hS := hE.size
              have q17 : f 0 = .slice (some ⟨b, off, none⟩) xs.length cap := tellV hp 0 0 rfl rfl (fun h => by cases h)
              have q18 : f 1 = .int .i64 k := tellV hp 1 1 rfl rfl (fun h => by cases h)
              simp only [OpGoal]
              go_simp
              exact ⟨_, rfl, Ext.refl _, rfl⟩
            case o3 =>
              intro f w2 hG hp hl
              have hE : Ext wr w2 := hG
              have hS := hE.size
              have q19 : f 2 = .pointer (some ⟨b, off + k, none⟩) := tellV hp 0 2 rfl rfl (fun h => by cases h)
              have hcell := hE.cell hcx
              simp only [OpGoal]
              go_simp
              exact ⟨_, rfl, Ext.refl _, rfl⟩
            case o4 =>
              intro f w2 hG hp hl
              have hE : Ext wr w2 := hG
              have hS := hE.size
              simp only [OpGoal]
              go_simp
              exact ⟨_, rfl, Ext.refl _, rfl⟩
            case o5 =>
              intro f w2 hG hp hl
              have hE : Ext wr w2 := hG
              have hS := hE.size
              simp only [OpGoal]
              go_simp
              exact ⟨_, rfl, Ext.refl _, rfl⟩
            case o6 =>
              intro f w2 hG hp hl
              have hE : Ext wr w2 := hG
              have hS := hE.size
              have q21 : f 4 = .slice (some ⟨b2, off2, none⟩) xs.length cap2 := tellV hp 0 4 rfl rfl (fun h => by cases h)
              have q22 : f 5 = .int .i64 k := tellV hp 1 5 rfl rfl (fun h => by cases h)
              simp only [OpGoal]
              go_simp
              exact ⟨_, rfl, Ext.refl _, rfl⟩
            case o7 =>
              intro f w2 hG hp hl
              have hE : Ext wr w2 := hG
              have hS := hE.size
              have q23 : f 6 = .pointer (some ⟨b2, off2 + k, none⟩) := tellV hp 0 6 rfl rfl (fun h => by cases h)
              have hcell := hE.cell hcy
              simp only [OpGoal]
              go_simp
              exact ⟨_, rfl, Ext.refl _, rfl⟩
            case o8 =>
              intro f w2 hG hp hl
              have hE : Ext wr w2 := hG
              have hS := hE.size
              have q20 : f 3 = .int .u64 (ys[k] : Int) := tellV hp 0 3 rfl rfl (fun h => by cases h)
              have q24 : f 7 = .int .u64 (ys[k] : Int) := tellV hp 1 7 rfl rfl (fun h => by cases h)
              simp only [OpGoal]
              go_simp
              exact ⟨_, rfl, Ext.refl _, rfl⟩
          · intro f w2 hG hp
            have hE : Ext wr w2 := ChgS.nil hG
            have q25 : f 8 = .bool false := endV hp 8 (by decide) rfl (fun h => by cases h)
            try simp only [q25]
            clear hp
            go_wp2
            go_roundw
            case rel => exact ⟨k + 1, by omega, rfl, He, hex.trans hE⟩
            case measure => simp [intOf]; omega
        · have hne : xs ≠ ys := by rintro rfl; exact he rfl
          have hb0 : (((xs[k] : Int)) != (ys[k] : Int)) = true := by simp; omega
          have Hne := Lib.hid (decide_eq_false hne)
          clear he hne
          go_wp2_with fail
          refine wp_region_puts [] [PP.val (.slice (some ⟨b, off, none⟩) xs.length cap), PP.val (.int .i64 k), PP.val (.pointer (some ⟨b, off + k, none⟩)), PP.val (.int .u64 (xs[k] : Int)), PP.val (.slice (some ⟨b2, off2, none⟩) xs.length cap2), PP.val (.int .i64 k), PP.val (.pointer (some ⟨b2, off2 + k, none⟩)), PP.val (.int .u64 (ys[k] : Int)), PP.val (.bool true)] [] [0, 1, 2, 3, 4, 5, 6, 7, 8]
            (by kernel_rfl) (by kernel_rfl) (fun f => (by simp only [fillR, fillL, List.setIfInBounds_toArray, List.set_cons_succ, List.set_cons_zero, Nat.reduceAdd]; rfl)) ?_ ?_ ?_ ?_ ?_
          · intro x hx; cases hx
          · intro x hx; cases hx
          · intro x hx; cases hx
          · refine ⟨?o0, ?o1, ?o2, ?o3, ?o4, ?o5, ?o6, ?o7, ?o8, trivial⟩
            case o0 =>
              intro f w2 hG hp hl
              have hE : Ext wr w2 := hG
              have hS := hE.size
              simp only [OpGoal]
              go_simp
              exact ⟨_, rfl, Ext.refl _, rfl⟩
            case o1 =>
              intro f w2 hG hp hl
              have hE : Ext wr w2 := hG
              have hS := hE.size
              simp only [OpGoal]
              go_simp
              exact ⟨_, rfl, Ext.refl _, rfl⟩
            case o2 =>
              intro f w2 hG hp hl
              have hE : Ext wr w2 := hG
              have hS := hE.size
              have q17 : f 0 = .slice (some ⟨b, off, none⟩) xs.length cap := tellV hp 0 0 rfl rfl (fun h => by cases h)
              have q18 : f 1 = .int .i64 k := tellV hp 1 1 rfl rfl (fun h => by cases h)
              simp only [OpGoal]
              go_simp
              exact ⟨_, rfl, Ext.refl _, rfl⟩
            case o3 =>
              intro f w2 hG hp hl
              have hE : Ext wr w2 := hG
              have hS := hE.size
              have q19 : f 2 = .pointer (some ⟨b, off + k, none⟩) := tellV hp 0 2 rfl rfl (fun h => by cases h)
              have hcell := hE.cell hcx
              simp only [OpGoal]
              go_simp
              exact ⟨_, rfl, Ext.refl _, rfl⟩
            case o4 =>
              intro f w2 hG hp hl
              have hE : Ext wr w2 := hG
              have hS := hE.size
              simp only [OpGoal]
              go_simp
              exact ⟨_, rfl, Ext.refl _, rfl⟩
            case o5 =>
              intro f w2 hG hp hl
              have hE : Ext wr w2 := hG
              have hS := hE.size
              simp only [OpGoal]
              go_simp
              exact ⟨_, rfl, Ext.refl _, rfl⟩
            case o6 =>
              intro f w2 hG hp hl
              have hE : Ext wr w2 := hG
              have hS := hE.size
              have q21 : f 4 = .slice (some ⟨b2, off2, none⟩) xs.length cap2 := tellV hp 0 4 rfl rfl (fun h => by cases h)
              have q22 : f 5 = .int .i64 k := tellV hp 1 5 rfl rfl (fun h => by cases h)
              simp only [OpGoal]
              go_simp
              exact ⟨_, rfl, Ext.refl _, rfl⟩
            case o7 =>
              intro f w2 hG hp hl
              have hE : Ext wr w2 := hG
              have hS := hE.size
              have q23 : f 6 = .pointer (some ⟨b2, off2 + k, none⟩) := tellV hp 0 6 rfl rfl (fun h => by cases h)
              have hcell := hE.cell hcy
              simp only [OpGoal]
              go_simp
              exact ⟨_, rfl, Ext.refl _, rfl⟩
            case o8 =>
              intro f w2 hG hp hl
              have hE : Ext wr w2 := hG
              have hS := hE.size
              have q20 : f 3 = .int .u64 (xs[k] : Int) := tellV hp 0 3 rfl rfl (fun h => by cases h)
              have q24 : f 7 = .int .u64 (ys[k] : Int) := tellV hp 1 7 rfl rfl (fun h => by cases h)
              simp only [OpGoal]
              go_simp
              exact ⟨_, rfl, Ext.refl _, rfl⟩
          · intro f w2 hG hp
            have hE : Ext wr w2 := ChgS.nil hG
            have q25 : f 8 = .bool true := endV hp 8 (by decide) rfl (fun h => by cases h)
            try simp only [q25]
            clear hp
            go_wp2
            go_ret
            rw [Hne.out]
            exact ⟨rfl, hex.trans hE⟩
      · have hke : k = xs.length := by omega
        subst hke
        have he : xs = ys := by
          have := ht.out
          rw [List.take_length, Hll.out, List.take_length] at this
          exact this
        have He := Lib.hid (decide_eq_true he)
        clear he
        go_wp2
        go_ret
        rw [He.out]
        exact ⟨rfl, hex⟩
  · have hne : xs ≠ ys := by rintro rfl; exact hll rfl
    have Hne := Lib.hid (decide_eq_false hne)
    have hll2 : ¬ (xs.length : Int) = (ys.length : Int) := by omega
    clear hne
    go_wp2
    go_ret
    rw [Hne.out]
    exact ⟨rfl, Ext.refl _⟩
end Go.Proofs.Ytnefipinicfegaa
