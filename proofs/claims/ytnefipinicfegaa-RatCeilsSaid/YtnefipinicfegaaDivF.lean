/-
  nat.takeOff, walked.
-/
import Derived.Test.YtnefipinicfegaaDivE
namespace Go.Proofs.Ytnefipinicfegaa
open Go.RowKit
set_option linter.unusedVariables false
set_option linter.unusedSimpArgs false

set_option maxHeartbeats 2000000 in
set_option maxRecDepth 100000 in
theorem takeOff_calls (g off cap cap2 : Nat) (ad2 : Option Addr) (pre post : List Value) (ss ys : List Nat) (q : Nat) (w : World) (hseg : SegAt 79 .u64 w g off pre ss post) (hs : ss.length = ys.length + 1)
    (hr2 : Rd w ad2 (vals .u64 ys)) (haw : Away g ad2) (hlen : ys.length ≤ 17592186044160) (hq : q < W) (ds : Dig W ss) (dy : Dig W ys) (hV : 0 < val W ys) (hq1 : val W ss / val W ys ≤ q) (hq2 : q ≤ val W ss / val W ys + 1) :
    Calls Try.prog 108 #[.slice (some ⟨g, off, none⟩) (ys.length + 1) cap, .slice ad2 ys.length cap2, .int .u64 (q : Int)] w fun e w' => ∃ ss', e = .returned (.int .u64 ((val W ss / val W ys : Nat) : Int)) ∧
      ss'.length = ys.length + 1 ∧ Dig W ss' ∧ val W ss' = val W ss % val W ys ∧ SegAt 79 .u64 w' g off pre ss' post ∧ Chg g w w' := by
  have Hs := Lib.hid hs
  have Hq1 := Lib.hid hq1
  have Hq2 := Lib.hid hq2
  have hypos : 0 < ys.length := by
    rcases Nat.eq_zero_or_pos ys.length with h | h
    · rw [List.eq_nil_of_length_eq_zero h] at hV; simp [val] at hV
    · exact h
  have HV := Lib.hid hV
  clear hs hq1 hq2 hV
  have hsub := sub64_run
  have hadd := add64_run0
  have hadd3 := add64_run
  go_enter Try.func108, Try.ntmps108
  go_wp2_with fail
  obtain ⟨b2, off2, rfl, hcells2⟩ := hr2.at (by rw [vals_length]; omega)
  go_loopw [7, 8, 18] (fun bo ca i wr => ∃ (k c b : Nat) (l : List Nat), i = .int .i64 k ∧ ca = .int .u64 c ∧ bo = .int .u64 b ∧ OffInv q ss ys l k c b ∧ SegAt 79 .u64 wr g off pre l post ∧ Chg g w wr) (fun _ _ i _ => ys.length - (intOf i).toNat)
  case atStart => exact ⟨0, 0, 0, ss, rfl, rfl, rfl, ⟨rfl, ds, by rw [W_eq]; omega, by omega, by simp [val], rfl, Nat.zero_le _⟩, hseg, Chg.refl g w⟩
  case round =>
    obtain ⟨k, c, b, l, rfl, rfl, rfl, hinv, hsg, hch⟩ := hrel
    have hk1 := hinv.2.2.2.2.2.2
    have hb1 := hinv.2.2.2.1
    have Hl1 := Lib.hid (hinv.1.trans Hs.out)
    clear hseg
    have hr3 := hr2.chg hch haw
    by_cases hlt : k < ys.length
    · have hcell2 : wr.cell? ⟨b2, off2 + k, none⟩ = some (.int .u64 (gD ys k : Int)) := by
        have hc := hcells2 k _ (vals_get .u64 ys k hlt)
        rw [← gD_lt hlt] at hc
        exact (World.cell?_of_block (w := w) (hch.heap (k := b2) (World.block_lt_of_cell? w _ hc) (haw _ rfl))).trans hc
      have hcell := hsg.cell k (by have := Hl1.out; omega)
      rw [drop_gD hinv.2.2.2.2.2.1] at hcell
      have hfree := hsg.free (off + k)
      have hW : 1 < W := W_gt
      have hwords := words_row hW hq (dy.gD (by omega) k) (show 0 < W by omega) hinv.2.2.1
      have hstep := hinv.step Hs.out hlt hq ds dy _ _ rfl rfl
      have hcW := hinv.2.2.1
      simp only [Nat.add_zero] at hwords
      have hw : q * gD ys k / W + (q * gD ys k % W + c) / W ≤ W - 1 ∧ (q * gD ys k % W + c) % W = (q * gD ys k + c) % W ∧ q * gD ys k / W + (q * gD ys k % W + c) / W = (q * gD ys k + c) / W := by
        have hm : q * gD ys k % W < W := Nat.mod_lt _ (by omega)
        rw [Nat.div_eq_of_lt hm, Nat.mod_eq_of_lt hm, Nat.add_zero] at hwords
        exact ⟨hwords.2.1, hwords.2.2.1, hwords.2.2.2⟩
      obtain ⟨hw1, hw2, hw3⟩ := hw
      rw [← hw2, ← hw3] at hstep
      have hmul := Lib.hid (fun (wx : World) => mul64_calls q (gD ys k) _ _ wx hq (dy.gD (by omega) k) rfl rfl)
      clear hwords hw2 hw3 hinv
      generalize q * gD ys k / W = hi at *
      generalize q * gD ys k % W = lo at *
      have ha1 := hadd lo c
      generalize (lo + c) / W = c1 at *
      generalize (lo + c) % W = t at *
      have hs1 := hsub (gD ss k) t b hb1
      have Hst := Lib.hid hstep
      generalize (gD ss k + W - t - b) % W = dd at hs1 Hst
      generalize (if gD ss k < t + b then 1 else 0 : Nat) = bb at hs1 Hst
      rw [W_eq] at hw1
      clear hsub hadd hadd3 hstep hcells2 hr3
      go_wp2_with fail
      refine (hmul.out wr).mono ?_
      rintro e w' ⟨rfl, rfl⟩
      go_wp2_with fail
      go_roundw
      case rel => exact ⟨k + 1, _, bb, _, by go_num, by go_num, rfl, Hst.out, SegAt.set (w := wr) hsg k dd (by have := Hl1.out; omega), hch.trans (Chg.setCell _ _ _ _)⟩
      case measure => simp [intOf]; omega
    · have hk : k = ys.length := by omega
      subst hk
      have hcell := hsg.cell ys.length (by have := Hl1.out; omega)
      rw [drop_gD hinv.2.2.2.2.2.1] at hcell
      have hfree := hsg.free (off + ys.length)
      have hs1 := hsub (gD ss ys.length) c b hb1
      have hkey := sub_word (ds.gD (by rw [W_eq]; omega) ys.length) hinv.2.2.1 hb1
      have hdW : (gD ss ys.length + W - c - b) % W < W := Nat.mod_lt _ (by rw [W_eq]; omega)
      have hbb : (if gD ss ys.length < c + b then 1 else 0 : Nat) ≤ 1 := by split <;> omega
      generalize (gD ss ys.length + W - c - b) % W = dd at *
      generalize (if gD ss ys.length < c + b then 1 else 0 : Nat) = bb at *
      have Hlast := Lib.hid (hinv.last Hs.out hdW hkey)
      have hsg2 := SegAt.set hsg ys.length dd (by have := Hl1.out; omega)
      have Hch2 := Lib.hid (hch.trans (Chg.setCell wr g (off + ys.length) (.int .u64 (dd : Int))))
      have Hl2 : Hid ((l.set ys.length dd).length = ys.length + 1) := by show (l.set ys.length dd).length = ys.length + 1; rw [List.length_set]; exact Hl1.out
      clear hinv hkey hsub hadd
      have Hcells2 := Lib.hid hcells2
      clear hcells2
      rcases Nat.eq_zero_or_pos bb with hb0 | hb0
      · subst hb0
        go_wp2_with fail
        go_ret
        obtain ⟨r1, r2⟩ := off_right HV.out (by have := Hlast.out.2; rw [Nat.mul_zero, Nat.add_zero] at this; exact this) Hq1.out
        exact ⟨l.set ys.length dd, by rw [← r1]; rfl, Hl2.out, Hlast.out.1, r2, hsg2, Hch2.out⟩
      · have hbe : bb = 1 := by omega
        subst hbe
        go_wp2_with fail
        have hm : Hid (Dig W (l.set ys.length dd)) := Hlast.out.1
        obtain ⟨m, hme⟩ : ∃ m, l.set ys.length dd = m := ⟨_, rfl⟩
        rw [hme] at hsg2 Hl2 hm Hlast
        clear hme hsg hch hcell hfree hs1 Hl1
        obtain ⟨w2, hw2⟩ : ∃ w2, wr.setCell ⟨g, off + ys.length, none⟩ (Value.int .u64 (dd : Int)) = w2 := ⟨_, rfl⟩
        rw [hw2] at hsg2 Hch2 ⊢
        clear hw2
        go_loopw [8, 72] (fun ca i wr => ∃ (k c : Nat) (l : List Nat), i = .int .i64 k ∧ ca = .int .u64 c ∧ OnInv m ys l k c ∧ SegAt 79 .u64 wr g off pre l post ∧ Chg g w wr) (fun _ i _ => ys.length - (intOf i).toNat)
        case atStart => exact ⟨0, 0, m, rfl, rfl, ⟨rfl, hm.out, by omega, by simp [val], rfl, Nat.zero_le _⟩, hsg2, Hch2.out⟩
        case round =>
          clear hsg2
          obtain ⟨k, c, l, rfl, rfl, hinv, hsg, hch⟩ := hrel
          have hk1 := hinv.2.2.2.2.2
          have hc1 := hinv.2.2.1
          have Hl1 := Lib.hid (hinv.1.trans Hl2.out)
          by_cases hlt : k < ys.length
          · have hcell2 : wr.cell? ⟨b2, off2 + k, none⟩ = some (.int .u64 (gD ys k : Int)) := by
              have hc := Hcells2.out k _ (vals_get .u64 ys k hlt)
              rw [← gD_lt hlt] at hc
              exact (World.cell?_of_block (w := w) (hch.heap (k := b2) (World.block_lt_of_cell? w _ hc) (haw _ rfl))).trans hc
            have hcell := hsg.cell k (by have := Hl1.out; omega)
            rw [drop_gD hinv.2.2.2.2.1] at hcell
            have hfree := hsg.free (off + k)
            have hs1 := hadd3 (gD m k) (gD ys k) c hc1
            have Hst := Lib.hid (hinv.step Hl2.out hlt hm.out dy)
            generalize (gD m k + gD ys k + c) % W = d2 at hs1 Hst
            generalize (gD m k + gD ys k + c) / W = c2 at hs1 Hst
            clear hinv hadd3
            go_wp2_with fail
            go_roundw
            case rel => exact ⟨k + 1, c2, _, by go_num, rfl, Hst.out, SegAt.set (w := wr) hsg k d2 (by have := Hl1.out; omega), hch.trans (Chg.setCell _ _ _ _)⟩
            case measure => simp [intOf]; omega
          · have hk : k = ys.length := by omega
            subst hk
            have hcell := hsg.cell ys.length (by have := Hl1.out; omega)
            rw [drop_gD hinv.2.2.2.2.1] at hcell
            have hfree := hsg.free (off + ys.length)
            obtain ⟨hd3, o, ho⟩ := hinv.last Hl2.out
            have hw : IntKind.u64.wrap ((gD m ys.length : Int) + (c : Int)) = (((gD m ys.length + c) % W : Nat) : Int) := by
              rw [IntKind.wrap_u64, W_eq]; omega
            generalize (gD m ys.length + c) % W = d2 at *
            have hsg3 := SegAt.set hsg ys.length d2 (by have := Hl1.out; omega)
            have Hch3 := Lib.hid (hch.trans (Chg.setCell wr g (off + ys.length) (.int .u64 (d2 : Int))))
            have Hd3 := Lib.hid hd3
            have hq1 : 1 ≤ q := by
              rcases Nat.eq_zero_or_pos q with h0 | h0
              · subst h0
                have e := Hlast.out.2
                have h1 := val_lt (show 0 < W by rw [W_eq]; omega) hm.out
                rw [Hl2.out] at h1
                simp at e
                omega
              · exact h0
            have hql : q ≤ 18446744073709551615 := by rw [W_eq] at hq; omega
            obtain ⟨r1, r2⟩ := off_again (P := W ^ (ys.length + 1)) HV.out (by have := Hlast.out.2; rwa [Nat.mul_one] at this) ho
              (by have := val_lt (show 0 < W by rw [W_eq]; omega) hm.out; rwa [Hl2.out] at this)
              (by have := val_lt (show 0 < W by rw [W_eq]; omega) hd3; rwa [List.length_set, Hl1.out] at this)
              (by
                have := val_lt (show 0 < W by rw [W_eq]; omega) dy
                exact Nat.le_of_lt (Nat.lt_of_lt_of_le this (Nat.pow_le_pow_right (by rw [W_eq]; omega) (by omega)))) Hq2.out
            have R1 := Lib.hid r1
            have R2 := Lib.hid r2
            clear hinv hadd3 ho hd3 r1 r2
            go_wp2_with fail
            go_ret
            refine ⟨l.set ys.length d2, ret_int (a := (q : Int) - 1) ?_, by rw [List.length_set]; exact Hl1.out, Hd3.out, R2.out, hsg3, Hch3.out⟩
            rw [← R1.out]; omega
end Go.Proofs.Ytnefipinicfegaa
