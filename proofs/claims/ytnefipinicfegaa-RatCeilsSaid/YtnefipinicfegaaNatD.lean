/-
  nat: a number moved up by words; differences that are refused.
-/
import Derived.Test.YtnefipinicfegaaNatC
namespace Go.Proofs.Ytnefipinicfegaa
open Go.RowKit
set_option linter.unusedVariables false
set_option linter.unusedSimpArgs false

set_option maxHeartbeats 400000 in
theorem moved_calls (ad : Option Addr) (n cap : Nat) (xs : List Nat) (k : Nat) (w : World) (hn : xs.length = n) (hr : Rd w ad (vals .u64 xs)) (hl : n + k ≤ 17592186044416) :
    Calls Try.prog 100 #[.slice ad n cap, .int .i64 (k : Int)] w fun e w' => ∃ v, e = .returned v ∧ FrL 79 .u64 w.heap.size w' v (List.replicate k 0 ++ xs) ∧ Ext w w' := by
  have Hn := Lib.hid hn
  clear hn
  go_enter Try.func100, Try.ntmps100
  go_wp2_with (at_make; refine wpList_make_lc _ rfl _ _ 22 rfl 79 .u64 8 Try.underlying22 info79 .i64 .i64 _ _ k n rfl rfl rfl (by omega) (by omega) (by omega) ?_)
  intro w1 g hext hg hblk
  have hfr := hblk.fr hg (cap := k + n) (by simp [vals_length]) (by omega)
  simp only [List.length_replicate] at hfr
  have hr1 := hr.ext hext
  have hs1 := hext.size
  have hL : (List.replicate k 0 : List Nat).length = k := List.length_replicate
  have HL := Lib.hid hL
  clear hL
  go_wp2_with (at_builtin; refine wpList_append_fr _ rfl _ _ 22 rfl 79 .u64 8 Try.underlying22 info79 w.heap.size _ (List.replicate k 0) xs ad n cap rfl rfl Hn.out hfr hr1 (by rw [HL.out]; omega) (by rw [HL.out]; omega) hs1 ?_)
  intro v' w2 hfr2 hgr
  go_wp2
  go_ret
  exact ⟨v', rfl, hfr2, Ext.step (g := g) hext hgr hg⟩

theorem isN_of {B : Nat} {w : World} {ad : Option Addr} {n cap m : Nat} {xs : List Nat} (hr : Rd w ad (vals .u64 xs)) (hn : xs.length = n) (hc : n ≤ cap) (hcap : cap ≤ 9223372036854775807) (hl : n ≤ 17592186044160) (d : Dig B xs) (hm : val B xs = m) :
    IsN .u64 B w (.slice ad n cap) m := by
  subst hn
  exact ⟨xs, ⟨ad, cap, rfl, hc, hcap, hr⟩, by rw [LIM_eq]; exact hl, d, hm⟩

theorem moved_isN (v : Value) (x k : Nat) (w : World) (hv : IsC .u64 W w v x) (hk : k + sz W x ≤ 17592186044160) :
    Calls Try.prog 100 #[v, .int .i64 (k : Int)] w fun e w' => ∃ v', e = .returned v' ∧ IsN .u64 W w' v' (W ^ k * x) ∧ Ext w w' := by
  obtain ⟨ad, cap, rfl, hlc, hcap, hr⟩ := hv
  unfold sz at hk
  refine (moved_calls ad _ cap (dg W x) k w rfl hr (by omega)).mono ?_
  rintro e w' ⟨v', rfl, hfr, hext⟩
  refine ⟨v', rfl, ⟨_, hfr.isL, ?_, ?_, ?_⟩, hext⟩
  · rw [List.length_append, List.length_replicate, LIM_eq]; exact hk
  · exact (Dig.replicate (by rw [W_eq]; omega) _).append (dg_can W_gt x).1
  · rw [val_zeros_append, dg_val W_gt]

set_option maxHeartbeats 400000 in
/-- nat.Sub, where b is no greater. -/
theorem sub_yes (v u : Value) (x y : Nat) (w : World) (hv : IsN .u64 W w v x) (hu : IsN .u64 W w u y) (hle : y ≤ x) :
    Calls Try.prog 101 #[v, u] w fun e w' => ∃ v', e = .returned (.tuple #[v', .int .i64 0]) ∧ FrN 79 .u64 W w.heap.size w' v' (x - y) ∧ Ext w w' := by
  have hc : decide (cmpN x y < 0) = false := by
    unfold cmpN; rw [if_neg (by omega)]; split <;> simp
  go_enter Try.func101, Try.ntmps101
  go_wp2_with fail
  refine (cmp_calls v u x y w hv hu).mono ?_
  rintro e w1 ⟨rfl, hext⟩
  generalize cmpN x y = cc at *
  have hu1 := hu.ext hext
  have hv1 := hv.ext hext
  obtain ⟨ys, ⟨ad2, cap2, rfl, hlc2, hcap2, hr2⟩, hlen2, hd2, hval2⟩ := hu1
  go_wp2_with fail
  refine (bare_calls ad2 _ cap2 ys w1 rfl hr2 hlc2 hcap2).mono ?_
  rintro e w' ⟨rfl, rfl⟩
  have ht : tz ys = dg W y := by rw [tz_eq_dg W_gt hd2, hval2]
  have hc2 : IsC .u64 W w1 (.slice ad2 (tz ys).length cap2) y := by
    unfold IsC; rw [← ht]
    exact ⟨ad2, cap2, rfl, Nat.le_trans (tz_length_le ys) hlc2, hcap2, by rw [← tz_take, vals_take]; exact hr2.take _⟩
  clear ht hval2
  go_wp2_with fail
  refine (less_calls v _ x y w1 hv1 hc2 hle).mono ?_
  rintro e w2 ⟨v', rfl, hfr, hext2⟩
  go_wp2
  go_ret2
  exact ⟨v', rfl, hfr.mono hext.size, hext.trans hext2⟩

set_option maxHeartbeats 400000 in
/-- nat.Sub, where b is greater. -/
theorem sub_no (v u : Value) (x y : Nat) (w : World) (hv : IsN .u64 W w v x) (hu : IsN .u64 W w u y) (hlt : x < y) :
    Calls Try.prog 101 #[v, u] w fun e w' => e = .returned (.tuple #[.slice none 0 0, .int .i64 4]) ∧ Ext w w' := by
  have hc : decide (cmpN x y < 0) = true := by
    unfold cmpN; rw [if_pos hlt]; rfl
  go_enter Try.func101, Try.ntmps101
  go_wp2_with fail
  refine (cmp_calls v u x y w hv hu).mono ?_
  rintro e w1 ⟨rfl, hext⟩
  generalize cmpN x y = cc at *
  go_wp2_with fail
  go_ret2
  exact ⟨rfl, hext⟩
end Go.Proofs.Ytnefipinicfegaa
