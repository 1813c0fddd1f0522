/-
  The document's numbers: comparison, sums, differences.
-/
import Derived.Test.YtnefipinicfegaaRefB
namespace Go.Proofs.Ytnefipinicfegaa
open Go.RowKit
set_option linter.unusedVariables false
set_option linter.unusedSimpArgs false

set_option maxRecDepth 100000 in
set_option maxHeartbeats 1000000 in
theorem take_gD {B : Nat} (ys : List Nat) (i : Nat) : val B (ys.take (i + 1)) = val B (ys.take i) + B ^ i * gD ys i := by
  by_cases h : i < ys.length
  · rw [val_take_succ ys i h, gD_lt h]
  · rw [List.take_of_length_le (by omega), List.take_of_length_le (by omega), gD_ge h]; simp

/-- The part of a number from place k on (places of it as if below were noughts). -/
def hiV (B : Nat) (xs : List Nat) (k : Nat) : Nat := val B (xs.drop k)
set_option maxRecDepth 100000 in
set_option maxHeartbeats 1000000 in
theorem hi_step {B : Nat} (xs : List Nat) (k : Nat) : hiV B xs k = gD xs k + B * hiV B xs (k + 1) := by
  unfold hiV
  by_cases h : k < xs.length
  · rw [val_drop xs k h, gD_lt h]
  · rw [List.drop_of_length_le (by omega), List.drop_of_length_le (by omega), gD_ge h]; simp [val]
set_option maxRecDepth 100000 in
set_option maxHeartbeats 1000000 in
theorem hi_big {B : Nat} (xs : List Nat) (k : Nat) (h : xs.length ≤ k) : hiV B xs k = 0 := by
  unfold hiV; rw [List.drop_of_length_le h]; rfl
set_option maxRecDepth 100000 in
set_option maxHeartbeats 1000000 in
theorem hi_zero {B : Nat} (xs : List Nat) : hiV B xs 0 = val B xs := rfl
set_option maxRecDepth 100000 in
set_option maxHeartbeats 1000000 in
theorem hi_split {B : Nat} (xs : List Nat) (k : Nat) : val B xs = val B (xs.take k) + B ^ k * hiV B xs k := by
  unfold hiV
  rcases Nat.le_total k xs.length with h | h
  · exact val_split xs k h
  · rw [List.take_of_length_le h, List.drop_of_length_le h]; simp [val]
set_option maxRecDepth 100000 in
set_option maxHeartbeats 1000000 in
theorem lo_lt {B : Nat} (hB : 0 < B) {xs : List Nat} (d : Dig B xs) (k : Nat) : val B (xs.take k) < B ^ k := by
  refine Nat.lt_of_lt_of_le (val_lt hB (d.take k)) (Nat.pow_le_pow_right hB ?_)
  rw [List.length_take]; omega
set_option maxRecDepth 100000 in
set_option maxHeartbeats 1000000 in
theorem val_lt_hi {B : Nat} (hB : 0 < B) {xs ys : List Nat} (dx : Dig B xs) (k : Nat) (h : hiV B xs k < hiV B ys k) : val B xs < val B ys := by
  rw [hi_split xs k, hi_split ys k]
  have h1 := lo_lt hB dx k
  have h2 : B ^ k * (hiV B xs k + 1) ≤ B ^ k * hiV B ys k := Nat.mul_le_mul_left _ h
  rw [Nat.mul_add] at h2
  omega

set_option maxRecDepth 100000 in
set_option maxHeartbeats 1000000 in
/-- ref01.Cmp. -/
theorem rcmp01_calls (v u : Value) (x y : Nat) (w : World) (hv : IsN .i64 TK w v x) (hu : IsN .i64 TK w u y) :
    Calls Try.prog 71 #[v, u] w fun e w' => e = .returned (.int .i64 (cmpN x y)) ∧ Ext w w' := by
  obtain ⟨xs, ⟨ad, cap, rfl, hlc, hcap, hr⟩, hlen, dx, hx⟩ := hv
  obtain ⟨ys, ⟨ad2, cap2, rfl, hlc2, hcap2, hr2⟩, hlen2, dy, hy⟩ := hu
  (first | rw [LIM_eq] at hlen hlen2 | rw [LIM_eqT] at hlen hlen2)
  have Hx := Lib.hid hx
  have Hy := Lib.hid hy
  clear hx hy
  go_enter Try.func71, Try.ntmps71
  obtain ⟨n, hn⟩ : ∃ n, n = max xs.length ys.length := ⟨_, rfl⟩
  have hh : hiV TK xs n = hiV TK ys n := by rw [hi_big xs n (by omega), hi_big ys n (by omega)]
  have hnl : n ≤ 1099511627776 := by omega
  have Hh := Lib.hid hh
  clear hh
  rcases Nat.lt_or_ge xs.length ys.length with hlt | hge
  · have hN : n = ys.length := by omega
    have HN := Lib.hid hN
    clear hn hN
    go_wp2
    go_loopw [6] (fun i wr => ∃ k : Nat, k ≤ n ∧ i = .int .i64 ((k : Int) - 1) ∧ Hid (hiV TK xs k = hiV TK ys k) ∧ Ext w wr) (fun i _ => (intOf i + 1).toNat)
    case atStart => exact ⟨n, Nat.le_refl _, by rw [HN.out], Hh, Ext.refl _⟩
    case round =>
      obtain ⟨k, hk, rfl, ht, hex⟩ := hrel
      rcases Nat.eq_zero_or_pos k with hk0 | hk0
      · subst hk0
        have hfin : cmpN x y = 0 := by
          have := ht.out
          rw [hi_zero, hi_zero, Hx.out, Hy.out] at this
          simp [cmpN, this]
        go_wp2
        go_ret
        exact ⟨ret_int hfin.symm, hex⟩
      · obtain ⟨j, rfl⟩ : ∃ j, k = j + 1 := ⟨k - 1, by omega⟩
        rw [show ((j + 1 : Nat) : Int) - 1 = (j : Int) from by omega]
        have sx := hi_step (B := TK) xs j
        have sy := hi_step (B := TK) ys j
        rw [← ht.out] at sy
        obtain ⟨a, ha⟩ : ∃ a, a = gD xs j := ⟨_, rfl⟩
        obtain ⟨b, hb⟩ : ∃ b, b = gD ys j := ⟨_, rfl⟩
        have pa := place_calls ad cap xs j
        have pb := place_calls ad2 cap2 ys j
        rw [← ha] at sx pa
        rw [← hb] at sy pb
        have Sx := Lib.hid sx
        have Sy := Lib.hid sy
        clear sx sy ha hb
        have pa' := fun wz => Lib.hid (pa wz)
        have pb' := fun wz => Lib.hid (pb wz)
        clear pa pb
        rcases Nat.lt_trichotomy a b with h1 | h1 | h1
        · have hfin : cmpN x y = -1 := by
            have : val TK xs < val TK ys := val_lt_hi (by rw [TK_eq]; omega) dx j (by rw [Sx.out, Sy.out]; omega)
            rw [Hx.out, Hy.out] at this
            simp [cmpN, this]
          go_wp2_with fail
          refine ((pa' wr).out (hr.ext hex) (by omega) (by omega)).mono ?_
          rintro e w' ⟨rfl, rfl⟩
          go_wp2_with fail
          refine ((pb' wr).out (hr2.ext hex) (by omega) (by omega)).mono ?_
          rintro e w' ⟨rfl, rfl⟩
          go_wp2
          go_ret
          exact ⟨ret_int hfin.symm, hex⟩
        · subst h1
          have ht2 : Hid (hiV TK xs j = hiV TK ys j) := by show hiV TK xs j = hiV TK ys j; rw [Sx.out, Sy.out]
          go_wp2_with fail
          refine ((pa' wr).out (hr.ext hex) (by omega) (by omega)).mono ?_
          rintro e w' ⟨rfl, rfl⟩
          go_wp2_with fail
          refine ((pb' wr).out (hr2.ext hex) (by omega) (by omega)).mono ?_
          rintro e w' ⟨rfl, rfl⟩
          go_wp2
          go_roundw
          case rel => exact ⟨j, by omega, rfl, ht2, hex⟩
          case measure => simp [intOf]
        · have hfin : cmpN x y = 1 := by
            have : val TK ys < val TK xs := val_lt_hi (by rw [TK_eq]; omega) dy j (by rw [Sx.out, Sy.out]; omega)
            rw [Hx.out, Hy.out] at this
            simp [cmpN, show ¬ x < y by omega, show ¬ x = y by omega]
          go_wp2_with fail
          refine ((pa' wr).out (hr.ext hex) (by omega) (by omega)).mono ?_
          rintro e w' ⟨rfl, rfl⟩
          go_wp2_with fail
          refine ((pb' wr).out (hr2.ext hex) (by omega) (by omega)).mono ?_
          rintro e w' ⟨rfl, rfl⟩
          go_wp2
          go_ret
          exact ⟨ret_int hfin.symm, hex⟩
  · have hN : n = xs.length := by omega
    have HN := Lib.hid hN
    clear hn hN
    have hge' : ¬ (xs.length : Int) < (ys.length : Int) := by omega
    go_wp2
    go_loopw [6] (fun i wr => ∃ k : Nat, k ≤ n ∧ i = .int .i64 ((k : Int) - 1) ∧ Hid (hiV TK xs k = hiV TK ys k) ∧ Ext w wr) (fun i _ => (intOf i + 1).toNat)
    case atStart => exact ⟨n, Nat.le_refl _, by rw [HN.out], Hh, Ext.refl _⟩
    case round =>
      obtain ⟨k, hk, rfl, ht, hex⟩ := hrel
      rcases Nat.eq_zero_or_pos k with hk0 | hk0
      · subst hk0
        have hfin : cmpN x y = 0 := by
          have := ht.out
          rw [hi_zero, hi_zero, Hx.out, Hy.out] at this
          simp [cmpN, this]
        go_wp2
        go_ret
        exact ⟨ret_int hfin.symm, hex⟩
      · obtain ⟨j, rfl⟩ : ∃ j, k = j + 1 := ⟨k - 1, by omega⟩
        rw [show ((j + 1 : Nat) : Int) - 1 = (j : Int) from by omega]
        have sx := hi_step (B := TK) xs j
        have sy := hi_step (B := TK) ys j
        rw [← ht.out] at sy
        obtain ⟨a, ha⟩ : ∃ a, a = gD xs j := ⟨_, rfl⟩
        obtain ⟨b, hb⟩ : ∃ b, b = gD ys j := ⟨_, rfl⟩
        have pa := place_calls ad cap xs j
        have pb := place_calls ad2 cap2 ys j
        rw [← ha] at sx pa
        rw [← hb] at sy pb
        have Sx := Lib.hid sx
        have Sy := Lib.hid sy
        clear sx sy ha hb
        have pa' := fun wz => Lib.hid (pa wz)
        have pb' := fun wz => Lib.hid (pb wz)
        clear pa pb
        rcases Nat.lt_trichotomy a b with h1 | h1 | h1
        · have hfin : cmpN x y = -1 := by
            have : val TK xs < val TK ys := val_lt_hi (by rw [TK_eq]; omega) dx j (by rw [Sx.out, Sy.out]; omega)
            rw [Hx.out, Hy.out] at this
            simp [cmpN, this]
          go_wp2_with fail
          refine ((pa' wr).out (hr.ext hex) (by omega) (by omega)).mono ?_
          rintro e w' ⟨rfl, rfl⟩
          go_wp2_with fail
          refine ((pb' wr).out (hr2.ext hex) (by omega) (by omega)).mono ?_
          rintro e w' ⟨rfl, rfl⟩
          go_wp2
          go_ret
          exact ⟨ret_int hfin.symm, hex⟩
        · subst h1
          have ht2 : Hid (hiV TK xs j = hiV TK ys j) := by show hiV TK xs j = hiV TK ys j; rw [Sx.out, Sy.out]
          go_wp2_with fail
          refine ((pa' wr).out (hr.ext hex) (by omega) (by omega)).mono ?_
          rintro e w' ⟨rfl, rfl⟩
          go_wp2_with fail
          refine ((pb' wr).out (hr2.ext hex) (by omega) (by omega)).mono ?_
          rintro e w' ⟨rfl, rfl⟩
          go_wp2
          go_roundw
          case rel => exact ⟨j, by omega, rfl, ht2, hex⟩
          case measure => simp [intOf]
        · have hfin : cmpN x y = 1 := by
            have : val TK ys < val TK xs := val_lt_hi (by rw [TK_eq]; omega) dy j (by rw [Sx.out, Sy.out]; omega)
            rw [Hx.out, Hy.out] at this
            simp [cmpN, show ¬ x < y by omega, show ¬ x = y by omega]
          go_wp2_with fail
          refine ((pa' wr).out (hr.ext hex) (by omega) (by omega)).mono ?_
          rintro e w' ⟨rfl, rfl⟩
          go_wp2_with fail
          refine ((pb' wr).out (hr2.ext hex) (by omega) (by omega)).mono ?_
          rintro e w' ⟨rfl, rfl⟩
          go_wp2
          go_ret
          exact ⟨ret_int hfin.symm, hex⟩

set_option maxRecDepth 100000 in
set_option maxHeartbeats 1000000 in
theorem rtrim_frl (v : Value) (l : List Nat) (w : World) (hv : IsL .i64 w v l) (d : Dig TK l) (hl : l.length ≤ 8796093022208) :
    Calls Try.prog 88 #[v] w fun e w' => ∃ v', e = .returned v' ∧ FrN 3 .i64 TK w.heap.size w' v' (val TK l) ∧ Ext w w' := by
  obtain ⟨ad, cap, rfl, hlc, hcap, hr⟩ := hv
  have := rtrim_core ad cap l w hr hlc hcap hl
  unfold FrN
  rwa [← tz_eq_dg TK_gt d]

def Add1 (xs ys l : List Nat) (i c : Nat) : Prop := l.length = i ∧ Dig TK l ∧ c ≤ 1 ∧ val TK l + TK ^ i * c = val TK (xs.take i) + val TK (ys.take i)
set_option maxRecDepth 100000 in
set_option maxHeartbeats 1000000 in
theorem Add1.step {xs ys l : List Nat} {i c : Nat} (h : Add1 xs ys l i c) (dx : Dig TK xs) (dy : Dig TK ys) : Add1 xs ys (l ++ [(gD xs i + gD ys i + c) % TK]) (i + 1) ((gD xs i + gD ys i + c) / TK) := by
  obtain ⟨h1, h2, h3, h4⟩ := h
  have hB : 0 < TK := by rw [TK_eq]; omega
  have hxi := dx.gD hB i
  have hyi := dy.gD hB i
  refine ⟨by simp [h1], h2.append (fun z hz => (show z = (gD xs i + gD ys i + c) % TK by simpa using hz) ▸ Nat.mod_lt _ hB), ?_, ?_⟩
  · have : (gD xs i + gD ys i + c) / TK < 2 := Nat.div_lt_of_lt_mul (by omega)
    omega
  · rw [val_append, h1, take_gD xs i, take_gD ys i, val_singleton]
    have e := Nat.mod_add_div (gD xs i + gD ys i + c) TK
    have e2 : TK ^ i * ((gD xs i + gD ys i + c) % TK) + TK ^ (i + 1) * ((gD xs i + gD ys i + c) / TK) = TK ^ i * (gD xs i + gD ys i + c) := by
      rw [Nat.pow_succ, Nat.mul_assoc, ← Nat.mul_add, e]
    simp only [Nat.mul_add] at e2
    omega

set_option maxRecDepth 100000 in
set_option maxHeartbeats 1000000 in
/-- ref01.Add. -/
theorem radd01_calls (v u : Value) (x y : Nat) (w : World) (hv : IsN .i64 TK w v x) (hu : IsN .i64 TK w u y) (hsx : sz TK x ≤ 68719476736) (hsy : sz TK y ≤ 68719476736) :
    Calls Try.prog 83 #[v, u] w fun e w' => ∃ v', e = .returned v' ∧ FrN 3 .i64 TK w.heap.size w' v' (x + y) ∧ Ext w w' := by
  obtain ⟨xs, ⟨ad, cap, rfl, hlc, hcap, hr⟩, hlen, dx, hx⟩ := hv
  obtain ⟨ys, ⟨ad2, cap2, rfl, hlc2, hcap2, hr2⟩, hlen2, dy, hy⟩ := hu
  (first | rw [LIM_eq] at hlen hlen2 | rw [LIM_eqT] at hlen hlen2)
  have Hx := Lib.hid hx
  have Hy := Lib.hid hy
  clear hx hy
  have eb := emptyD
  have hf0 := frl_empty w 3 .i64
  have hal := (Ext.refl w).alloc (.cells #[] 3)
  obtain ⟨n, hn⟩ : ∃ n, n = max xs.length ys.length := ⟨_, rfl⟩
  have hnl : n ≤ 1099511627776 := by omega
  have Hn := Lib.hid hn
  clear hn
  go_enter Try.func83, Try.ntmps83
  go_wp2
  go_loopw [5, 6, 7] (fun out cy i wr => ∃ (k c : Nat) (l : List Nat), i = .int .i64 k ∧ cy = .int .i64 c ∧ FrL 3 .i64 w.heap.size wr out l ∧ Hid (Add1 xs ys l k c) ∧ k ≤ n + 1 ∧ Hid (k = n + 1 → c = 0) ∧ Ext w wr) (fun _ _ i _ => n + 1 - (intOf i).toNat)
  case atStart => exact ⟨0, 0, [], rfl, rfl, hf0, ⟨rfl, Dig.nil, by omega, by simp [val]⟩, by omega, fun h => by omega, hal⟩
  case round =>
    obtain ⟨k, c, l, rfl, rfl, hfr, Hi, hkn, Hlast, hex⟩ := hrel
    have hc1 := Hi.out.2.2.1
    have hsz := hex.size
    by_cases hgo : k < xs.length ∨ k < ys.length ∨ 0 < c
    · have hkn2 : k ≤ n := by
        have := Hlast.out; have := Hn.out
        rcases hgo with h | h | h <;> omega
      have Hst := Lib.hid (Hi.out.step dx dy)
      have Hlen := Lib.hid Hi.out.1
      have hB : 0 < TK := by rw [TK_eq]; omega
      have ha1 := dx.gD hB k
      have hb1 := dy.gD hB k
      obtain ⟨a, ha⟩ : ∃ a, a = gD xs k := ⟨_, rfl⟩
      obtain ⟨b, hb⟩ : ∃ b, b = gD ys k := ⟨_, rfl⟩
      have pa := place_calls ad cap xs k
      have pb := place_calls ad2 cap2 ys k
      rw [← ha] at Hst ha1 pa
      rw [← hb] at Hst hb1 pb
      rw [TK_eq] at ha1 hb1
      obtain ⟨r, hrr⟩ : ∃ r : Nat, r = (a + b + c) % TK := ⟨_, rfl⟩
      obtain ⟨q, hqq⟩ : ∃ q : Nat, q = (a + b + c) / TK := ⟨_, rfl⟩
      rw [← hrr, ← hqq] at Hst
      have Hq0 := Lib.hid (show k + 1 = n + 1 → q = 0 by
        intro hk
        have h1 : k = n := by omega
        have := Hn.out
        have h2 : gD xs k = 0 := gD_ge (by omega)
        have h3 : gD ys k = 0 := gD_ge (by omega)
        rw [hqq, ha, hb, h2, h3, TK_eq]
        omega)
      rw [TK_eq] at hrr hqq
      have em : ((a : Int) + (b : Int) + (c : Int)) % 10000 = (r : Int) := by omega
      have ed : ((a : Int) + (b : Int) + (c : Int)) / 10000 = (q : Int) := by omega
      clear hrr hqq ha hb
      have pa' := fun wz => Lib.hid (pa wz)
      have pb' := fun wz => Lib.hid (pb wz)
      clear pa pb
      have hgo3 : (k < xs.length) ∨ (¬ k < xs.length ∧ k < ys.length) ∨ (¬ k < xs.length ∧ ¬ k < ys.length ∧ 0 < c) := by omega
      clear hgo
      rcases hgo3 with h1 | ⟨h1, h2⟩ | ⟨h1, h2, h3⟩
      all_goals
        go_wp2_with fail
        refine ((pa' wr).out (hr.ext hex) (by omega) (by omega)).mono ?_
        rintro e w' ⟨rfl, rfl⟩
        go_wp2_with fail
        refine ((pb' wr).out (hr2.ext hex) (by omega) (by omega)).mono ?_
        rintro e w' ⟨rfl, rfl⟩
        go_wp2_with (at_builtin; refine wpList_append_fr _ rfl _ _ 32 rfl 3 .i64 8 Try.underlying32 info3 w.heap.size _ l [r] (some ⟨wr.heap.size, 0, none⟩) 1 1 rfl rfl rfl (hfr.alloc _) (Rd.new1 wr .i64 r _) (by rw [Hlen.out]; omega) (by rw [Hlen.out]; omega) (by simp; omega) ?_)
        intro v2 w2 hfr2 hgr2
        have hext2 := Ext.step_own (hex.alloc (.cells #[.int .i64 (r : Int)] 3)) hgr2 hfr.block
        go_wp2
        go_roundw
        case rel => exact ⟨k + 1, q, _, rfl, by rw [ed], hfr2, Hst, by omega, Hq0, hext2⟩
        case measure => simp [intOf]; omega
    · have h1 : ¬ k < xs.length := by omega
      have h2 : ¬ k < ys.length := by omega
      have h3 : c = 0 := by omega
      subst h3
      clear hgo
      have hfin : val TK l = x + y := by
        have := Hi.out.2.2.2
        rw [List.take_of_length_le (by omega), List.take_of_length_le (by omega), Hx.out, Hy.out] at this
        omega
      have Hll := Lib.hid (show l.length ≤ 8796093022208 by rw [Hi.out.1]; omega)
      have Hfin := Lib.hid hfin
      clear hfin
      go_wp2_with fail
      refine (rtrim_frl _ l _ hfr.isL Hi.out.2.1 Hll.out).mono ?_
      rw [Hfin.out]
      rintro e w2 ⟨v', rfl, h5, hext2⟩
      go_wp2
      go_ret
      exact ⟨_, rfl, h5.mono hsz, hex.trans hext2⟩
end Go.Proofs.Ytnefipinicfegaa
