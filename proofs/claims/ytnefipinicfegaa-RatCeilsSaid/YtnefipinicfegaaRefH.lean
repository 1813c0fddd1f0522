/-
  The document's numbers: words again.
-/
import Derived.Test.YtnefipinicfegaaRefG
namespace Go.Proofs.Ytnefipinicfegaa
open Go.RowKit
set_option linter.unusedVariables false
set_option linter.unusedSimpArgs false

set_option maxRecDepth 100000 in
set_option maxHeartbeats 1000000 in
/-- ref01.value: a number below 2^62. -/
theorem value01_calls (v : Value) (n : Nat) (w : World) (hv : IsN .i64 TK w v n) (hn : n ≤ 4611686018427387904) :
    Calls Try.prog 90 #[v] w fun e w' => e = .returned (.int .i64 (n : Int)) ∧ w = w' := by
  obtain ⟨xs, ⟨ad, cap, rfl, hlc, hcap, hr⟩, hlen, dx, hx⟩ := hv
  (first | rw [LIM_eq] at hlen | rw [LIM_eqT] at hlen)
  have Hx := Lib.hid hx
  clear hx
  go_enter Try.func90, Try.ntmps90
  go_wp2
  go_loopw [3, 4] (fun a i wr => ∃ k t : Nat, i = .int .i64 ((k : Int) - 1) ∧ a = .int .i64 t ∧ t = hiV TK xs k ∧ k ≤ xs.length ∧ w = wr) (fun _ i _ => (intOf i + 1).toNat)
  case atStart => exact ⟨xs.length, 0, rfl, rfl, by rw [hi_big xs _ (Nat.le_refl _)], Nat.le_refl _, rfl⟩
  case round =>
    obtain ⟨k, t, rfl, rfl, ht, hk, rfl⟩ := hrel
    rcases Nat.eq_zero_or_pos k with hk0 | hk0
    · subst hk0
      rw [hi_zero, Hx.out] at ht
      subst ht
      go_wp2
      go_ret
      exact ⟨rfl, rfl⟩
    · obtain ⟨j, rfl⟩ : ∃ j, k = j + 1 := ⟨k - 1, by omega⟩
      rw [show ((j + 1 : Nat) : Int) - 1 = (j : Int) from by omega]
      obtain ⟨b, off, rfl, hcells⟩ := hr.at (by rw [vals_length]; omega)
      have hcell := hcells j _ (vals_get .i64 xs j (by omega))
      rw [← gD_lt (show j < xs.length by omega)] at hcell
      have hst := hi_step (B := TK) xs j
      have hle : hiV TK xs j ≤ n := by
        rw [← Hx.out, hi_split xs j]
        have : 1 * hiV TK xs j ≤ TK ^ j * hiV TK xs j := Nat.mul_le_mul_right _ (Nat.pow_pos (by rw [TK_eq]; omega))
        omega
      obtain ⟨a, ha⟩ : ∃ a, a = gD xs j := ⟨_, rfl⟩
      rw [← ha, ← ht, TK_eq] at hst
      rw [← ha] at hcell
      rw [TK_eq] at hle
      rw [hst] at hle
      have hjl : j < xs.length := by omega
      have Hst := Lib.hid (show t * 10000 + a = hiV TK xs j by rw [TK_eq, hst]; omega)
      clear hcells ha hst ht
      go_wp2
      go_roundw
      case rel => exact ⟨j, t * 10000 + a, rfl, by go_num, Hst.out, by omega, trivial⟩
      case measure => simp [intOf]

set_option maxRecDepth 100000 in
set_option maxHeartbeats 1000000 in
theorem szW_le (n : Nat) : sz W n ≤ sz TK n := dg_len_le W_gt (Nat.lt_of_lt_of_le (dg_len_lt TK_gt n) (Nat.pow_le_pow_left (by rw [TK_eq, W_eq]; omega) _))

set_option maxRecDepth 100000 in
set_option maxHeartbeats 1000000 in
theorem FrL.other {e e' : TypeId} {k k' : IntKind} {B0 B1 : Nat} {w w' : World} {v u : Value} {xs ys : List Nat} (h : FrL e k B0 w v xs) (ho : FrL e' k' B1 w u ys) (hne : e ≠ e') (hg : w.grownBy w' u.ownBlock) : FrL e k B0 w' v xs := by
  obtain ⟨ad, cap, rfl, h2, h3, h4⟩ := h
  obtain ⟨ad', cap', rfl, k2, k3, k4⟩ := ho
  rcases k4 with ⟨_, _, rfl⟩ | ⟨g, cur, rfl, _, hh, _⟩
  · exact ⟨ad, cap, rfl, h2, h3, h4.ext hg⟩
  · refine ⟨ad, cap, rfl, h2, h3, ?_⟩
    rcases h4 with h4 | ⟨g', cur', h5, h6, h7, h8⟩
    · exact .inl h4
    · refine .inr ⟨g', cur', h5, h6, Chg.blk (g0 := g) hg h7 ?_, h8⟩
      rintro rfl
      rw [h7] at hh
      simp only [Option.some.injEq, Obj.cells.injEq] at hh
      exact hne hh.2.1

set_option maxRecDepth 100000 in
set_option maxHeartbeats 1000000 in
/-- ref01.To. -/
theorem rto01_calls (v : Value) (n : Nat) (w : World) (hv : IsN .i64 TK w v n) (hsz : sz TK n ≤ 68719476736) :
    Calls Try.prog 62 #[v] w fun e w' => ∃ v', e = .returned v' ∧ FrN 79 .u64 W w.heap.size w' v' n ∧ Ext w w' := by
  have eb := empty22
  have hf0 := frl_empty w 79 .u64
  have hal := (Ext.refl w).alloc (.cells #[] 79)
  have hnW : (dg W n).length ≤ 68719476736 := Nat.le_trans (szW_le n) hsz
  obtain ⟨H, hH⟩ : ∃ H : Nat, H = 4294967296 := ⟨_, rfl⟩
  have HH := Lib.hid hH
  go_enter Try.func62, Try.ntmps62
  go_wp2_with fail
  refine (rsmall_calls 4294967296 _ (by omega)).mono ?_
  rw [← hH]
  clear hH
  rintro e w1 ⟨vh, rfl, hh, e1⟩
  have hex1 := hal.trans e1
  have hsH : sz TK H ≤ 5 := by rw [HH.out]; exact dg_small_len (by omega)
  have hh1 := FrN.mono hh hal.size
  have hfr1 := hf0.ext e1
  clear hh
  go_wp2_with fail
  refine (rtrim_calls _ n _ (hv.ext hex1)).mono ?_
  rintro e w2 ⟨vx, rfl, hx2, e2⟩
  have hex2 := hex1.trans e2
  have hfr2 := hfr1.ext e2
  have hh2 := hh1.ext e2
  have hx3 := FrN.mono hx2 hex1.size
  clear hx2
  go_wp2_with fail
  go_loopw [3, 5] (fun out x wr => ∃ (m : Nat) (l : List Nat), FrL 79 .u64 w.heap.size wr out l ∧ FrN 3 .i64 TK w.heap.size wr x m ∧ FrN 3 .i64 TK w.heap.size wr vh H ∧ Hid (dg W n = l ++ dg W m) ∧ m ≤ n ∧ Ext w wr) (fun _ x wr => numD wr x)
  case atStart => exact ⟨n, [], hfr2, hx3, hh2, rfl, Nat.le_refl _, hex2⟩
  case round =>
    obtain ⟨m, l, hfr, hxm, hvh, Hd, hmn, hex⟩ := hrel
    have hhN := hvh.isC.isN TK_gt (by (first | rw [LIM_eq] | rw [LIM_eqT]); omega)
    have hsm : sz TK m ≤ 68719476736 := Nat.le_trans (dg_len_mono TK_gt hmn) hsz
    obtain ⟨adx, capx, rfl⟩ := hxm.slice
    rcases Nat.eq_zero_or_pos m with h0 | h0
    · subst h0
      have hd : dg W n = l := by have := Hd.out; simpa [dg_zero] using this
      have Hd2 := Lib.hid hd
      have hz : sz TK 0 = 0 := rfl
      rw [hz] at *
      clear hd
      go_wp2
      go_ret
      refine ⟨_, rfl, ?_, hex⟩
      unfold FrN
      rw [Hd2.out]
      exact hfr
    · have hs0 : 0 < sz TK m := by
        have : sz TK m ≠ 0 := fun e => by have := szT_zero.1 e; omega
        omega
      have hH0 : 0 < H := by rw [HH.out]; omega
      go_wp2_with fail
      refine (rdm01_calls _ _ m H _ (hxm.isC.isN TK_gt (by (first | rw [LIM_eq] | rw [LIM_eqT]); omega)) hhN hH0 (by omega)).mono ?_
      rintro e w3 ⟨vq, vlow, rfl, hq, hlow, e3⟩
      have hsq : sz TK (m / H) ≤ 68719476736 := Nat.le_trans (dg_len_mono TK_gt (Nat.div_le_self m H)) hsm
      go_wp2_with fail
      refine (rdm01_calls _ _ (m / H) H _ (hq.isC.isN TK_gt (by (first | rw [LIM_eq] | rw [LIM_eqT]); omega)) (hhN.ext e3) hH0 (by omega)).mono ?_
      rintro e w4 ⟨vp, vhigh, rfl, hp, hhigh, e4⟩
      have hhl : m / H % H < 4294967296 := by rw [HH.out]; omega
      have hll : m % H < 4294967296 := by rw [HH.out]; omega
      obtain ⟨a, ha⟩ : ∃ a, a = m / H % H := ⟨_, rfl⟩
      obtain ⟨b, hb⟩ : ∃ b, b = m % H := ⟨_, rfl⟩
      have hdig : a * 4294967296 + b = m % W := by rw [ha, hb, HH.out, W_eq]; omega
      have hpm : m / H / H = m / W := by rw [HH.out, W_eq]; omega
      rw [← ha] at hhl hhigh
      rw [← hb] at hll hlow
      rw [hpm] at hp
      have hd : dg W n = (l ++ [a * 4294967296 + b]) ++ dg W (m / W) := by
        rw [Hd.out, dg_cons W_gt (by omega : m ≠ 0), hdig]; simp
      have hllen : l.length ≤ 68719476736 := by
        have := congrArg List.length Hd.out
        rw [List.length_append] at this
        omega
      have Hd2 := Lib.hid hd
      have E4 := hex.trans (e3.trans e4)
      have hfr4 := hfr.ext (e3.trans e4)
      have hs4 := E4.size
      have hmlt : m / W < m := Nat.div_lt_self h0 W_gt
      have Hmlt := Lib.hid hmlt
      obtain ⟨d, hdd⟩ : ∃ d, d = a * 4294967296 + b := ⟨_, rfl⟩
      rw [← hdd] at Hd2
      have hdi : (a : Int) * 4294967296 + (b : Int) = (d : Int) := by omega
      have hsE := (hex.trans e3).size
      have hmn2 : m / W ≤ n := by omega
      have hw1 : IntKind.u64.wrap (a : Int) = (a : Int) := by simp (disch := omega) only [IntWalk.u64_in]
      have hw2 : IntKind.u64.wrap ((a : Int) * 4294967296) = (a : Int) * 4294967296 := by simp (disch := omega) only [IntWalk.u64_in]
      have hw3 : IntKind.u64.wrap (b : Int) = (b : Int) := by simp (disch := omega) only [IntWalk.u64_in]
      have hw4 : IntKind.u64.wrap (d : Int) = (d : Int) := by simp (disch := omega) only [IntWalk.u64_in]
      clear ha hb hdig hpm hd hmlt hdd
      go_wp2_with fail
      refine (value01_calls _ a _ (hhigh.isC.isN TK_gt (by have := dg_small_len (show a ≤ 9223372036854775807 by omega); unfold sz; (first | rw [LIM_eq] | rw [LIM_eqT]); omega)) (by omega)).mono ?_
      rintro e w' ⟨rfl, rfl⟩
      go_wp2_with fail
      refine (value01_calls _ b _ ((hlow.ext e4).isC.isN TK_gt (by have := dg_small_len (show b ≤ 9223372036854775807 by omega); unfold sz; (first | rw [LIM_eq] | rw [LIM_eqT]); omega)) (by omega)).mono ?_
      rintro e w' ⟨rfl, rfl⟩
      go_wp2_with (at_builtin; refine wpList_append_fr _ rfl _ _ 22 rfl 79 .u64 8 Try.underlying22 info79 w.heap.size _ l [d] (some ⟨w4.heap.size, 0, none⟩) 1 1 rfl rfl rfl (hfr4.alloc _) (Rd.new1 w4 .u64 d _) (by omega) (by omega) (by simp; omega) ?_)
      intro v2 w5 hfr5 hgr5
      have hext5 := Ext.step_own (E4.alloc (.cells #[.int .u64 (d : Int)] 79)) hgr5 hfr4.block
      have hp4 : FrN 3 .i64 TK w.heap.size w4 vp (m / W) := FrN.mono hp hsE
      have hpal := hp4.ext ((Ext.refl w4).alloc (.cells #[.int .u64 (d : Int)] 79))
      have hp5 : FrN 3 .i64 TK w.heap.size w5 vp (m / W) := FrL.other hpal (hfr4.alloc _) (by decide) hgr5
      have hv5 : FrN 3 .i64 TK w.heap.size w5 vh H := FrL.other (FrL.ext hvh ((e3.trans e4).alloc (.cells #[.int .u64 (d : Int)] 79))) (hfr4.alloc _) (by decide) hgr5
      go_wp2
      go_roundw
      case rel => exact ⟨m / W, _, hfr5, hp5, hv5, Hd2, hmn2, hext5⟩
      case measure =>
        rw [numD_of hp5.isC, numD_of hxm.isC]
        exact Hmlt.out
end Go.Proofs.Ytnefipinicfegaa
