/-
  The document's numbers: quotients and rests; the greatest common divisor.
-/
import Derived.Test.YtnefipinicfegaaRefD
namespace Go.Proofs.Ytnefipinicfegaa
open Go.RowKit
set_option linter.unusedVariables false
set_option linter.unusedSimpArgs false

def D1 (xs l : List Nat) (k r y : Nat) : Prop := l.length = xs.length ∧ Dig TK l ∧ hiV TK xs k = hiV TK l k * y + r ∧ r < y
set_option maxRecDepth 100000 in
set_option maxHeartbeats 1000000 in
theorem hi_set {B : Nat} {l : List Nat} {j q : Nat} (h : j < l.length) : hiV B (l.set j q) j = q + B * hiV B l (j + 1) := by
  rw [hi_step]
  have e : gD (l.set j q) j = q := by rw [gD_lt (by simpa using h)]; simp
  have e2 : hiV B (l.set j q) (j + 1) = hiV B l (j + 1) := by
    unfold hiV
    rw [List.drop_set_of_lt (by omega)]
  rw [e, e2]
set_option maxRecDepth 100000 in
set_option maxHeartbeats 1000000 in
theorem D1.step {xs l : List Nat} {j r y q r' : Nat} (h : D1 xs l (j + 1) r y) (hj : j < xs.length) (hq : q < TK) (hr : r' + q * y = gD xs j + TK * r) (hlt : r' < y) : D1 xs (l.set j q) j r' y := by
  obtain ⟨h1, h2, h3, h4⟩ := h
  refine ⟨by simpa using h1, h2.set hq, ?_, hlt⟩
  rw [hi_set (by omega), hi_step xs j, h3, Nat.add_mul, Nat.mul_add, Nat.mul_assoc]
  omega

set_option maxRecDepth 100000 in
set_option maxHeartbeats 1000000 in
theorem dg_fr_one {w : World} {e : TypeId} {k : IntKind} (c : Nat) : FrL e k w.heap.size (w.alloc (.cells #[.int k (c : Int)] e)) (.slice (some ⟨w.heap.size, 0, none⟩) 1 1) [c] := own_new w k c e

set_option maxRecDepth 100000 in
set_option maxHeartbeats 4000000 in
theorem rdm01_calls (v u : Value) (x y : Nat) (w : World) (hv : IsN .i64 TK w v x) (hu : IsN .i64 TK w u y) (hy : 0 < y) (hsy : sz TK y ≤ 68719476736) :
    Calls Try.prog 89 #[v, u] w fun e w' => ∃ vq vr, e = .returned (.tuple #[vq, vr]) ∧ FrN 3 .i64 TK w.heap.size w' vq (x / y) ∧ FrN 3 .i64 TK w.heap.size w' vr (x % y) ∧ Ext w w' := by
  obtain ⟨xs, ⟨ad, cap, rfl, hlc, hcap, hr⟩, hlen, dx, hx⟩ := hv
  (first | rw [LIM_eq] at hlen | rw [LIM_eqT] at hlen)
  have Hx := Lib.hid hx
  clear hx
  have eb := emptyD
  go_enter Try.func89, Try.ntmps89
  go_wp2_with (at_make; refine wpList_make_vals _ rfl _ _ 32 rfl 3 .i64 8 Try.underlying32 info3 .i64 .i64 _ _ xs.length rfl rfl (by omega) (by omega) (by omega) (by omega) ?_)
  intro w1 g hext hg hblk
  have hf1 := FrL.mono (frl_empty w1 3 .i64) hext.size
  have hal1 := hext.alloc (.cells #[] 3)
  have hblk1 := hblk.ext ((Ext.refl w1).alloc (.cells #[] 3))
  go_wp2_with fail
  go_loopw [7, 8] (fun rv i wr => ∃ (k r : Nat) (l : List Nat), i = .int .i64 ((k : Int) - 1) ∧ FrN 3 .i64 TK w.heap.size wr rv r ∧ BlkAt 3 .i64 wr g l [] ∧ Hid (D1 xs l k r y) ∧ k ≤ xs.length ∧ Ext w wr) (fun _ i _ => (intOf i + 1).toNat)
  case atStart => exact ⟨xs.length, 0, _, rfl, hf1, hblk1, ⟨by simp, Dig.replicate (by rw [TK_eq]; omega) _, by rw [hi_big xs _ (Nat.le_refl _), hi_big _ _ (by simp)]; simp, hy⟩, Nat.le_refl _, hal1⟩
  case round =>
    obtain ⟨k, r, l, rfl, hrv, hbl, Hd, hk, hex⟩ := hrel
    have hry := Hd.out.2.2.2
    have Hl1 := Lib.hid Hd.out.1
    rcases Nat.eq_zero_or_pos k with hk0 | hk0
    · subst hk0
      have hval : x = val TK l * y + r := by have := Hd.out.2.2.1; rwa [hi_zero, hi_zero, Hx.out] at this
      have Hq := Lib.hid (show x / y = val TK l by rw [hval, Nat.mul_comm, Nat.mul_add_div hy, Nat.div_eq_of_lt hry]; omega)
      have Hr := Lib.hid (show x % y = r by rw [hval, Nat.mul_comm, Nat.mul_add_mod, Nat.mod_eq_of_lt hry])
      have Hdg := Lib.hid Hd.out.2.1
      have hsz := hex.size
      have hIs : IsL .i64 wr (.slice (some ⟨g, 0, none⟩) xs.length xs.length) l := ⟨_, xs.length, by rw [Hl1.out], by rw [Hl1.out]; omega, by omega, hbl.rd⟩
      clear hval
      go_wp2_with fail
      refine (rtrim_frl _ l _ hIs Hdg.out (by rw [Hl1.out]; omega)).mono ?_
      rw [← Hq.out]
      rintro e w2 ⟨v', rfl, h5, hext2⟩
      go_wp2
      go_ret2
      rw [Hr.out]
      exact ⟨_, _, rfl, h5.mono hsz, hrv.ext hext2, hex.trans hext2⟩
    · obtain ⟨j, rfl⟩ : ∃ j, k = j + 1 := ⟨k - 1, by omega⟩
      rw [show ((j + 1 : Nat) : Int) - 1 = (j : Int) from by omega]
      obtain ⟨b, off, rfl, hcells⟩ := hr.at (by rw [vals_length]; omega)
      have hcell := hex.cell (hcells j _ (vals_get .i64 xs j (by omega)))
      rw [← gD_lt (show j < xs.length by omega)] at hcell
      have hB : 0 < TK := by rw [TK_eq]; omega
      have ha1 := dx.gD hB j
      have Hst := fun q r' (h1 : q < TK) h2 h3 => Lib.hid (Hd.out.step (q := q) (r' := r') (by omega) h1 h2 h3)
      obtain ⟨a, ha⟩ : ∃ a, a = gD xs j := ⟨_, rfl⟩
      rw [← ha] at Hst ha1 hcell
      have ha1' := Lib.hid ha1
      rw [TK_eq] at ha1
      clear ha hcells
      have hsz := hex.size
      have hsr : sz TK r ≤ sz TK y := dg_len_mono TK_gt (by omega)
      have Hr := Lib.hid hrv
      obtain ⟨ad2, cap2, rfl, hlr, hcr, hor⟩ := hrv
      have hone := own_new wr .i64 a 3
      have hw2 : (wr.alloc (.cells #[.int .i64 (a : Int)] 3)).heap.size = wr.heap.size + 1 := alloc_size _ _
      unfold sz at hsr hsy
      have hbl' := hbl.ext ((Ext.refl wr).alloc (.cells #[.int .i64 (a : Int)] 3))
      go_wp2_with (at_builtin; refine wpList_append_fr _ rfl _ _ 32 rfl 3 .i64 8 Try.underlying32 info3 wr.heap.size _ [a] (dg TK r) ad2 (dg TK r).length cap2 rfl rfl rfl hone (hor.rd.ext ((Ext.refl wr).alloc _)) (by simp; omega) (by simp; omega) (by omega) ?_)
      intro v2 w2 hfr2 hgr2
      have hext2 : Ext wr w2 := Ext.step_own ((Ext.refl wr).alloc (.cells #[.int .i64 (a : Int)] 3)) hgr2 hone.block
      have dr : Dig TK (a :: dg TK r) := Dig.cons ha1'.out (dg_can TK_gt r).1
      have hvr : val TK (a :: dg TK r) = a + TK * r := by show a + TK * val TK (dg TK r) = _; rw [dg_val TK_gt]
      have Hvr := Lib.hid hvr
      clear hvr
      go_wp2_with fail
      refine (rtrim_frl _ _ _ hfr2.isL dr (by simp; omega)).mono ?_
      rw [Hvr.out]
      rintro e w3 ⟨v3, rfl, h3, hext3⟩
      obtain ⟨r', hr'⟩ : ∃ r', r' = a + TK * r := ⟨_, rfl⟩
      rw [← hr'] at h3
      have hrb : r' < 10000 * y := by
        rw [hr', TK_eq]
        have : 10000 * (r + 1) ≤ 10000 * y := Nat.mul_le_mul_left _ hry
        omega
      have hsr' : sz TK r' ≤ 68719476737 := by
        have h1 := dg_len_mono TK_gt (show r' ≤ 10000 * y by omega)
        have h2 := dg_len_mul TK_gt 10000 y
        have h3 : (dg TK 10000).length ≤ 2 := dg_len_le TK_gt (by rw [TK_eq]; decide)
        unfold sz
        have h4 : (dg TK r').length ≤ (dg TK y).length + 1 := by
          refine dg_len_le TK_gt ?_
          have := dg_len_lt TK_gt y
          rw [Nat.pow_succ, Nat.mul_comm]
          refine Nat.lt_of_lt_of_le hrb ?_
          rw [TK_eq] at this ⊢
          exact Nat.mul_le_mul_left _ (by omega)
        omega
      have Hrd := Lib.hid hr'
      clear hr' Hvr dr
      have E3 := hex.trans (hext2.trans hext3)
      have hbl3 := (hbl.ext (hext2.trans hext3))
      have h3r := FrN.mono h3 (Nat.le_trans hsz hext2.size)
      have hI3 := h3r.isC.isN TK_gt (by (first | rw [LIM_eq] | rw [LIM_eqT]); omega)
      go_wp2_with fail
      go_loopw [9, 10] (fun lo hi wr => ∃ p q : Nat, lo = .int .i64 p ∧ hi = .int .i64 q ∧ p < q ∧ q ≤ 10000 ∧ Hid (p * y ≤ r' ∧ r' < q * y) ∧ Ext w3 wr) (fun lo hi _ => (intOf hi - intOf lo).toNat)
      case atStart => exact ⟨0, 10000, rfl, rfl, by omega, by omega, ⟨by omega, hrb⟩, Ext.refl _⟩
      case round =>
        obtain ⟨p, q, rfl, rfl, hpq, hq, Hb, hexi⟩ := hrel
        have E4 := E3.trans hexi
        have hI4 := hI3.ext hexi
        by_cases hgo : p + 1 < q
        · obtain ⟨m, hm⟩ : ∃ m, m = (p + q) / 2 := ⟨_, rfl⟩
          have hmi : ((p : Int) + (q : Int)) / 2 = (m : Int) := by omega
          have hm1 : p < m ∧ m < q := by omega
          clear hm
          obtain ⟨w5, hw5, e5, b5, s5⟩ := alloc1 wr #[.int .i64 (m : Int)] 3
          have hone2 := isN_one (k := .i64) (B := TK) wr m 3 (by rw [TK_eq]; omega)
          rw [← hw5] at hone2
          go_wp2_with fail
          rw [← hw5]
          refine (rmul01_calls _ _ y m _ (hu.ext (E4.trans e5)) hone2).mono ?_
          rintro e w6 ⟨v6, rfl, h6, e6⟩
          go_wp2_with fail
          refine (rcmp01_calls _ _ (y * m) r' _ (h6.isC.isN TK_gt (by
            have h1 := dg_len_mul TK_gt y m
            have h2 : (dg TK m).length ≤ 1 := dg_len_le TK_gt (by rw [TK_eq]; omega)
            unfold sz; (first | rw [LIM_eq] | rw [LIM_eqT]); omega)) (hI4.ext (e5.trans e6))).mono ?_
          rintro e w7 ⟨rfl, e7⟩
          have hcm : cmpN (y * m) r' ≤ 0 ↔ m * y ≤ r' := by
            rw [Nat.mul_comm]
            unfold cmpN
            split
            · omega
            · split <;> omega
          have E7 := ((hexi.trans e5).trans e6).trans e7
          by_cases hc : m * y ≤ r'
          · have hcn : cmpN (y * m) r' ≤ 0 := hcm.2 hc
            have Hb2 := Lib.hid (show m * y ≤ r' ∧ r' < q * y from ⟨hc, Hb.out.2⟩)
            clear hcm hc
            go_wp2
            go_roundw
            case rel => exact ⟨m, q, rfl, rfl, by omega, by omega, Hb2, E7⟩
            case measure => simp [intOf]; omega
          · have hcn : ¬ cmpN (y * m) r' ≤ 0 := fun h => hc (hcm.1 h)
            have Hb2 := Lib.hid (show p * y ≤ r' ∧ r' < m * y from ⟨Hb.out.1, by omega⟩)
            clear hcm hc
            go_wp2
            go_roundw
            case rel => exact ⟨p, m, rfl, rfl, by omega, by omega, Hb2, E7⟩
            case measure => simp [intOf]; omega
        · have hqp : q = p + 1 := by omega
          have hb1 := Hb.out.1
          have hb2 := Hb.out.2
          rw [hqp, Nat.add_mul, Nat.one_mul] at hb2
          have hp1 : p < TK := by rw [TK_eq]; omega
          have HD := Hst p (r' - p * y) hp1 (by rw [← Hrd.out]; omega) (by omega)
          have Hle := Lib.hid (show y * p ≤ r' by rw [Nat.mul_comm]; exact hb1)
          have hcomm := Lib.hid (Nat.mul_comm p y)
          clear hb1 hb2
          have hblr := hbl3.ext hexi
          obtain ⟨old, hout⟩ := hblr.got j (by rw [Hl1.out]; omega)
          have hfree := hblr.free j
          have hset := BlkAt.set hblr j p (by rw [Hl1.out]; omega)
          obtain ⟨w5, hw5⟩ : ∃ w5, w5 = wr.setCell ⟨g, j, none⟩ (.int .i64 (p : Int)) := ⟨_, rfl⟩
          have hch : Chg g wr w5 := by rw [hw5]; exact Chg.setCell _ _ _ _
          have E5 : Ext w w5 := E4.step hch hg
          rw [← hw5] at hset
          have hgb := hbl.lt
          have es2 := hext2.size
          obtain ⟨w6, hw6, e6, b6, s6⟩ := alloc1 w5 #[.int .i64 (p : Int)] 3
          have hone2 := isN_one (k := .i64) (B := TK) w5 p 3 hp1
          rw [← hw6] at hone2
          have hs5 : w5.heap.size = wr.heap.size := by rw [hw5]; simp [World.setCell]
          rw [hs5] at hone2
          go_wp2_with fail
          rw [← hw5, ← hw6]
          refine (rmul01_calls _ _ y p _ (hu.ext (E5.trans e6)) hone2).mono ?_
          rintro e w7 ⟨v7, rfl, h7, e7⟩
          have h3' := ((h3.ext hexi).chg hch (by omega)).ext (e6.trans e7)
          go_wp2_with fail
          refine (rsub01_calls _ _ r' (y * p) _ (h3'.isC.isN TK_gt (by (first | rw [LIM_eq] | rw [LIM_eqT]); omega)) (h7.isC.isN TK_gt (Nat.le_trans (dg_len_mono TK_gt Hle.out) (by unfold sz at hsr'; (first | rw [LIM_eq] | rw [LIM_eqT]); omega))) Hle.out).mono ?_
          rintro e w8 ⟨v8, rfl, h8, e8⟩
          have E8 := ((E5.trans e6).trans e7).trans e8
          have hsE := ((E5.trans e6).trans e7).size
          rw [hcomm.out] at HD
          go_wp2
          go_roundw
          case rel => exact ⟨j, r' - y * p, _, rfl, h8.mono hsE, hset.ext ((e6.trans e7).trans e8), HD, by omega, E8⟩
          case measure => simp [intOf]
end Go.Proofs.Ytnefipinicfegaa
