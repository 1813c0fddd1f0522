/-
  The document's numbers: places of four decimal digits: trimming, small numbers, a place; copies and sameness of words.
-/
import Derived.Test.YtnefipinicfegaaRatE
namespace Go.Proofs.Ytnefipinicfegaa
open Go.RowKit
set_option linter.unusedVariables false
set_option linter.unusedSimpArgs false

/-- What a place counts up to. -/
def TK : Nat := 10000
set_option maxRecDepth 100000 in
set_option maxHeartbeats 1000000 in
theorem TK_eq : TK = 10000 := rfl
set_option maxRecDepth 100000 in
set_option maxHeartbeats 1000000 in
theorem TK_gt : 1 < TK := by rw [TK_eq]; omega

set_option maxHeartbeats 400000 in
set_option maxRecDepth 100000 in
set_option maxHeartbeats 1000000 in
theorem place_calls (ad : Option Addr) (cap : Nat) (xs : List Nat) (i : Nat) (w : World) (hr : Rd w ad (vals .i64 xs)) (hi : i ≤ 9223372036854775807) (hl : xs.length ≤ 9223372036854775807) :
    Calls Try.prog 94 #[.slice ad xs.length cap, .int .i64 (i : Int)] w fun e w' => e = .returned (.int .i64 ((gD xs i : Nat) : Int)) ∧ w = w' := by
  by_cases h : i < xs.length
  · obtain ⟨b, off, rfl, hcells⟩ := hr.at (by rw [vals_length]; omega)
    have hcell := hcells i _ (vals_get .i64 xs i h)
    clear hcells
    have hg := gD_lt h
    have Hg := Lib.hid hg
    clear hg
    go_enter Try.func94, Try.ntmps94
    go_wp2
    go_ret
    exact ⟨by rw [Hg.out]; rfl, rfl⟩
  · have hg := gD_ge h
    have Hg := Lib.hid hg
    clear hg
    go_enter Try.func94, Try.ntmps94
    go_wp2
    go_ret
    exact ⟨by rw [Hg.out]; rfl, rfl⟩

set_option maxRecDepth 100000 in
set_option maxHeartbeats 1000000 in
theorem emptyD (w : World) : (Instr.buildSlice 32 0 #[]).run Try.prog w = .ok (.slice (some ⟨w.heap.size, 0, none⟩) 0 0) (w.alloc (.cells #[] 3)) := by kernel_rfl
set_option maxRecDepth 100000 in
set_option maxHeartbeats 1000000 in
theorem frl_empty (w : World) (e : TypeId) (k : IntKind) : FrL e k w.heap.size (w.alloc (.cells #[] e)) (.slice (some ⟨w.heap.size, 0, none⟩) 0 0) [] :=
  ⟨_, 0, rfl, Nat.le_refl _, by omega, .inr ⟨w.heap.size, _, rfl, Nat.le_refl _, heap_alloc_new w _, rfl, rfl⟩⟩

set_option maxRecDepth 100000 in
set_option maxHeartbeats 1000000 in
theorem tz_step (xs : List Nat) (j : Nat) (h : j < xs.length) (h0 : xs[j] = 0) (ht : Hid (tz xs = tz (xs.take (j+1)))) : Hid (tz xs = tz (xs.take j)) := by
  show tz xs = tz (xs.take j)
  rw [ht.out, List.take_succ_eq_append_getElem h, h0, tz_snoc_zero]
set_option maxRecDepth 100000 in
set_option maxHeartbeats 1000000 in
theorem tz_here (xs : List Nat) (j : Nat) (h : j < xs.length) (h0 : ¬ xs[j] = 0) (ht : Hid (tz xs = tz (xs.take (j+1)))) : tz xs = xs.take (j + 1) := by
  rw [ht.out, List.take_succ_eq_append_getElem h, tz_snoc _ _ h0]

set_option maxHeartbeats 1000000 in
set_option maxRecDepth 100000 in
set_option maxHeartbeats 1000000 in
theorem rtrim_core (ad : Option Addr) (cap : Nat) (xs : List Nat) (w : World) (hr : Rd w ad (vals .i64 xs)) (hlc : xs.length ≤ cap) (hcap : cap ≤ 9223372036854775807) (hl : xs.length ≤ 8796093022208) :
    Calls Try.prog 88 #[.slice ad xs.length cap] w fun e w' => ∃ v, e = .returned v ∧ FrL 3 .i64 w.heap.size w' v (tz xs) ∧ Ext w w' := by
  have eb := emptyD
  go_enter Try.func88, Try.ntmps88
  go_wp2
  go_loopw [3] (fun n wr => ∃ k : Nat, k ≤ xs.length ∧ n = .int .i64 k ∧ Hid (tz xs = tz (xs.take k)) ∧ w = wr) (fun n _ => (intOf n).toNat)
  case atStart => exact ⟨xs.length, Nat.le_refl _, rfl, by simp [Hid], rfl⟩
  case round =>
    obtain ⟨k, hk, rfl, ht, rfl⟩ := hrel
    by_cases hz : 0 < k ∧ gD xs (k - 1) = 0
    · obtain ⟨j, rfl⟩ : ∃ j, k = j + 1 := ⟨k - 1, by omega⟩
      obtain ⟨b, off, rfl, hcells⟩ := hr.at (by rw [vals_length]; omega)
      have hcell := hcells j _ (vals_get .i64 xs j (by omega))
      have hx0 : xs[j] = 0 := by have := hz.2; rwa [show j + 1 - 1 = j by omega, gD_lt (by omega)] at this
      have Hx0 := Lib.hid hx0
      rw [hx0] at hcell
      clear hcells hz hx0
      go_wp2
      go_roundw
      case rel => exact ⟨j, by omega, rfl, tz_step xs j (by omega) Hx0.out ht, trivial⟩
      case measure => simp [intOf]
    · have hfin : tz xs = xs.take k := by
        rcases Nat.eq_zero_or_pos k with h0 | h0
        · subst h0; have := ht.out; simpa [tz] using this
        · obtain ⟨j, rfl⟩ : ∃ j, k = j + 1 := ⟨k - 1, by omega⟩
          refine tz_here xs j (by omega) (fun h => hz ⟨by omega, ?_⟩) ht
          rw [show j + 1 - 1 = j by omega, gD_lt (by omega)]; exact h
      have Hfin := Lib.hid hfin
      clear hfin ht
      rcases Nat.eq_zero_or_pos k with h0 | h0
      · subst h0
        clear hz
        go_wp2_with fail
        refine wp_loop_rounds 1 ?_
        rw [rounds_succ]
        go_wp2
        go_ret
        rw [Hfin.out, List.take_zero]
        exact ⟨_, rfl, frl_empty _ _ _, (Ext.refl _).alloc _⟩
      · obtain ⟨j, rfl⟩ : ∃ j, k = j + 1 := ⟨k - 1, by omega⟩
        obtain ⟨b, off, rfl, hcells⟩ := hr.at (by rw [vals_length]; omega)
        have hcell := hcells j _ (vals_get .i64 xs j (by omega))
        have hx0 : ¬ ((xs[j] : Int) = 0) := fun h => hz ⟨by omega, by rw [show j + 1 - 1 = j by omega, gD_lt (by omega)]; omega⟩
        clear hz
        have hf0 := frl_empty w 3 .i64
        have hal := (Ext.refl w).alloc (.cells #[] 3)
        go_wp2_with fail
        have hb0 : ((xs[j] : Int) == 0) = false := by simpa using hx0
        simp only [Int.natCast_add, Int.cast_ofNat_Int, hb0]
        go_loopw [4, 5] (fun out i wr => ∃ m : Nat, m ≤ j + 1 ∧ i = .int .i64 m ∧ FrL 3 .i64 w.heap.size wr out (xs.take m) ∧ Ext w wr) (fun _ i _ => j + 1 - (intOf i).toNat)
        case atStart => exact ⟨0, by omega, rfl, by rw [List.take_zero]; exact hf0, hal⟩
        case round =>
          obtain ⟨m, hm, rfl, hfr, hex⟩ := hrel
          by_cases hlt : m < j + 1
          · have hcm := hex.cell (hcells m _ (vals_get .i64 xs m (by omega)))
            have hlm : (xs.take m).length = m := by rw [List.length_take]; omega
            have Hlm := Lib.hid hlm
            have hsz := hex.size
            clear hcells hlm
            go_wp2_with (at_builtin; go_loud (refine wpList_append_fr _ rfl _ _ 32 rfl 3 .i64 8 Try.underlying32 info3 w.heap.size _ (xs.take m) [xs[m]] (some ⟨wr.heap.size, 0, none⟩) 1 1 rfl rfl rfl (hfr.alloc _) (Rd.new1 wr .i64 xs[m] _) (by rw [Hlm.out]; omega) (by rw [Hlm.out]; omega) (by simp; omega) ?_))
            intro v2 w2 hfr2 hgr2
            have hext2 := Ext.step_own (hex.alloc (.cells #[.int .i64 (xs[m] : Int)] 3)) hgr2 hfr.block
            go_wp2
            go_roundw
            case rel => exact ⟨m + 1, by omega, rfl, hfr2, hext2⟩
            case measure => simp [intOf]; omega
          · have hme : m = j + 1 := by omega
            subst hme
            clear hcells
            go_wp2
            go_ret
            rw [Hfin.out]
            exact ⟨_, rfl, hfr, hex⟩

set_option maxRecDepth 100000 in
set_option maxHeartbeats 1000000 in
/-- ref01.Trim: the number's one form, in new memory. -/
theorem rtrim_calls (v : Value) (n : Nat) (w : World) (hv : IsN .i64 TK w v n) :
    Calls Try.prog 88 #[v] w fun e w' => ∃ v', e = .returned v' ∧ FrN 3 .i64 TK w.heap.size w' v' n ∧ Ext w w' := by
  obtain ⟨xs, ⟨ad, cap, rfl, hlc, hcap, hr⟩, hlen, hd, rfl⟩ := hv
  (first | rw [LIM_eq] at hlen | rw [LIM_eqT] at hlen)
  have := rtrim_core ad cap xs w hr hlc hcap (by omega)
  unfold FrN
  rwa [← tz_eq_dg TK_gt hd]

set_option maxRecDepth 100000 in
set_option maxHeartbeats 1000000 in
theorem dg_small_len {n : Nat} (h : n ≤ 9223372036854775807) : (dg TK n).length ≤ 5 := dg_len_le TK_gt (by
  rw [TK_eq]
  have : (10000 : Nat) ^ 5 = 100000000000000000000 := by decide
  omega)

set_option maxRecDepth 100000 in
set_option maxHeartbeats 1000000 in
/-- ref01.Small: a number of at most 63 bits. -/
theorem rsmall_calls (n : Nat) (w : World) (h : n ≤ 9223372036854775807) :
    Calls Try.prog 82 #[.int .i64 (n : Int)] w fun e w' => ∃ v', e = .returned v' ∧ FrN 3 .i64 TK w.heap.size w' v' n ∧ Ext w w' := by
  have eb := emptyD
  have hl5 := dg_small_len h
  have hf0 := frl_empty w 3 .i64
  have hal := (Ext.refl w).alloc (.cells #[] 3)
  go_enter Try.func82, Try.ntmps82
  go_wp2
  go_loopw [0, 3] (fun m out wr => ∃ (k : Nat) (l : List Nat), m = .int .i64 k ∧ FrL 3 .i64 w.heap.size wr out l ∧ Hid (dg TK n = l ++ dg TK k) ∧ k ≤ 9223372036854775807 ∧ Ext w wr) (fun m _ _ => (intOf m).toNat)
  case atStart => exact ⟨n, [], rfl, hf0, rfl, h, hal⟩
  case round =>
    obtain ⟨k, l, rfl, hfr, Hd, hk, hex⟩ := hrel
    rcases Nat.eq_zero_or_pos k with h0 | h0
    · subst h0
      have hd : dg TK n = l := by have := Hd.out; simpa [dg_zero] using this
      have Hd2 := Lib.hid hd
      clear hd
      go_wp2
      go_ret
      refine ⟨_, rfl, ?_, hex⟩
      unfold FrN
      rw [Hd2.out]
      exact hfr
    · have hd : dg TK n = (l ++ [k % 10000]) ++ dg TK (k / 10000) := by
        rw [Hd.out, dg_cons TK_gt (by omega : k ≠ 0), TK_eq]; simp
      have hll : l.length ≤ 5 := by
        have := congrArg List.length Hd.out
        rw [List.length_append] at this
        omega
      have Hd2 := Lib.hid hd
      have hsz := hex.size
      clear hd
      obtain ⟨r, hr⟩ : ∃ r : Nat, r = k % 10000 := ⟨_, rfl⟩
      obtain ⟨q, hq⟩ : ∃ q : Nat, q = k / 10000 := ⟨_, rfl⟩
      have em : ((k : Int) % 10000) = (r : Int) := by omega
      have ed : ((k : Int) / 10000) = (q : Int) := by omega
      have hqk := Lib.hid (show q < k by omega)
      rw [← hr, ← hq] at Hd2
      have Hr := Lib.hid hr
      have Hq := Lib.hid hq
      clear hr hq
      go_wp2_with (at_builtin; refine wpList_append_fr _ rfl _ _ 32 rfl 3 .i64 8 Try.underlying32 info3 w.heap.size _ l [r] (some ⟨wr.heap.size, 0, none⟩) 1 1 rfl rfl rfl (hfr.alloc _) (Rd.new1 wr .i64 r _) (by omega) (by omega) (by simp; omega) ?_)
      intro v2 w2 hfr2 hgr2
      have hext2 := Ext.step_own (hex.alloc (.cells #[.int .i64 (r : Int)] 3)) hgr2 hfr.block
      go_wp2
      go_roundw
      case rel => exact ⟨q, _, rfl, hfr2, Hd2, by have := hqk.out; omega, hext2⟩
      case measure => have := hqk.out; simp [intOf]; omega
end Go.Proofs.Ytnefipinicfegaa
