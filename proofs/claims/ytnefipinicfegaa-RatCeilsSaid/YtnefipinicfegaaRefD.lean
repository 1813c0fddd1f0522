/-
  The document's numbers: differences, products.
-/
import Derived.Test.YtnefipinicfegaaRefC
namespace Go.Proofs.Ytnefipinicfegaa
open Go.RowKit
set_option linter.unusedVariables false
set_option linter.unusedSimpArgs false

def Sub1 (xs ys l : List Nat) (i c : Nat) : Prop := l.length = i ∧ Dig TK l ∧ c ≤ 1 ∧ val TK (xs.take i) + TK ^ i * c = val TK l + val TK (ys.take i)
set_option maxRecDepth 100000 in
set_option maxHeartbeats 1000000 in
theorem Sub1.step {xs ys l : List Nat} {i c d b : Nat} (h : Sub1 xs ys l i c) (hd : d < TK) (hb : b ≤ 1) (he : gD xs i + TK * b = d + gD ys i + c) : Sub1 xs ys (l ++ [d]) (i + 1) b := by
  obtain ⟨h1, h2, h3, h4⟩ := h
  refine ⟨by simp [h1], h2.append (fun z hz => (show z = d by simpa using hz) ▸ hd), hb, ?_⟩
  rw [val_append, h1, take_gD xs i, take_gD ys i, val_singleton]
  have e2 := congrArg (TK ^ i * ·) he
  simp only [Nat.mul_add] at e2
  rw [Nat.pow_succ, Nat.mul_assoc]
  omega
set_option maxRecDepth 100000 in
set_option maxHeartbeats 1000000 in
theorem Sub1.finish {xs ys l : List Nat} {c : Nat} (h : Sub1 xs ys l xs.length c) (dx : Dig TK xs) (hle : val TK ys ≤ val TK xs) : val TK l = val TK xs - val TK ys := by
  obtain ⟨h1, h2, h3, h4⟩ := h
  have hB : 0 < TK := by rw [TK_eq]; omega
  rw [List.take_of_length_le (Nat.le_refl _)] at h4
  have hs := hi_split (B := TK) ys xs.length
  have hxl := val_lt hB dx
  have hz : hiV TK ys xs.length = 0 := by
    rcases Nat.eq_zero_or_pos (hiV TK ys xs.length) with h | h
    · exact h
    · have : TK ^ xs.length * 1 ≤ TK ^ xs.length * hiV TK ys xs.length := Nat.mul_le_mul_left _ h
      omega
  rw [hz, Nat.mul_zero, Nat.add_zero] at hs
  rw [← hs] at h4
  have hll := val_lt hB h2
  rw [h1] at hll
  have : c = 0 ∨ c = 1 := by omega
  rcases this with rfl | rfl
  · omega
  · omega

set_option maxRecDepth 100000 in
set_option maxHeartbeats 1000000 in
/-- ref01.Sub: x - y, y no greater. -/
theorem rsub01_calls (v u : Value) (x y : Nat) (w : World) (hv : IsN .i64 TK w v x) (hu : IsN .i64 TK w u y) (hle : y ≤ x) :
    Calls Try.prog 102 #[v, u] w fun e w' => ∃ v', e = .returned v' ∧ FrN 3 .i64 TK w.heap.size w' v' (x - y) ∧ Ext w w' := by
  obtain ⟨xs, ⟨ad, cap, rfl, hlc, hcap, hr⟩, hlen, dx, hx⟩ := hv
  obtain ⟨ys, ⟨ad2, cap2, rfl, hlc2, hcap2, hr2⟩, hlen2, dy, hy⟩ := hu
  (first | rw [LIM_eq] at hlen hlen2 | rw [LIM_eqT] at hlen hlen2)
  have Hle := Lib.hid hle
  have Hx := Lib.hid hx
  have Hy := Lib.hid hy
  clear hx hy hle
  have eb := emptyD
  have hf0 := frl_empty w 3 .i64
  have hal := (Ext.refl w).alloc (.cells #[] 3)
  go_enter Try.func102, Try.ntmps102
  go_wp2
  go_loopw [5, 6, 7] (fun out cy i wr => ∃ (k c : Nat) (l : List Nat), i = .int .i64 k ∧ cy = .int .i64 c ∧ FrL 3 .i64 w.heap.size wr out l ∧ Hid (Sub1 xs ys l k c) ∧ k ≤ xs.length ∧ Ext w wr) (fun _ _ i _ => xs.length - (intOf i).toNat)
  case atStart => exact ⟨0, 0, [], rfl, rfl, hf0, ⟨rfl, Dig.nil, by omega, by simp [val]⟩, by omega, hal⟩
  case round =>
    obtain ⟨k, c, l, rfl, rfl, hfr, Hi, hkn, hex⟩ := hrel
    have hc1 := Hi.out.2.2.1
    have hsz := hex.size
    by_cases hlt : k < xs.length
    · have Hlen := Lib.hid Hi.out.1
      have hB : 0 < TK := by rw [TK_eq]; omega
      have ha1 := dx.gD hB k
      have hb1 := dy.gD hB k
      obtain ⟨b, off, rfl, hcells⟩ := hr.at (by rw [vals_length]; omega)
      have hcell := hex.cell (hcells k _ (vals_get .i64 xs k hlt))
      rw [← gD_lt hlt] at hcell
      clear hcells
      have Hst := fun (d e : Nat) (h1 : d < TK) (h2 : e ≤ 1) h3 => Lib.hid (Hi.out.step (d := d) (b := e) h1 h2 h3)
      obtain ⟨a, ha⟩ : ∃ a, a = gD xs k := ⟨_, rfl⟩
      obtain ⟨y0, hy0⟩ : ∃ b, b = gD ys k := ⟨_, rfl⟩
      have pb := place_calls ad2 cap2 ys k
      rw [← ha] at Hst ha1 hcell
      rw [← hy0] at Hst hb1 pb
      rw [TK_eq] at ha1 hb1
      clear ha hy0
      have pb' := fun wz => Lib.hid (pb wz)
      clear pb
      have hr2' := hr2.ext hex
      have hw1 : IntKind.i64.wrap ((a : Int) - (y0 : Int)) = (a : Int) - (y0 : Int) := by simp (disch := omega) only [IntWalk.i64_in]
      have hw2 : IntKind.i64.wrap ((a : Int) - (y0 : Int) - (c : Int)) = (a : Int) - (y0 : Int) - (c : Int) := by simp (disch := omega) only [IntWalk.i64_in]
      go_wp2_with fail
      refine wp_region_puts [] [PP.val (.slice (some ⟨b, off, none⟩) xs.length cap), PP.val (.int .i64 k), PP.val (.pointer (some ⟨b, off + k, none⟩)), PP.val (.int .i64 (a : Int)), PP.val (.slice ad2 ys.length cap2), PP.val (.int .i64 k), PP.val (.int .i64 (y0 : Int)), PP.val (.int .i64 ((a : Int) - (y0 : Int))), PP.val (.int .i64 c), PP.val (.int .i64 ((a : Int) - (y0 : Int) - (c : Int))), PP.val (.int .i64 ((a : Int) - (y0 : Int) - (c : Int)))] [] [0, 1, 2, 3, 4, 5, 6, 7, 8, 9, 10]
        (by kernel_rfl) (by kernel_rfl) (fun f => (by simp only [fillR, fillL, List.setIfInBounds_toArray, List.set_cons_succ, List.set_cons_zero, Nat.reduceAdd]; rfl)) ?_ ?_ ?_ ?_ ?_
      · intro x hx; cases hx
      · intro x hx; cases hx
      · intro x hx; cases hx
      · refine ⟨?o0, ?o1, ?o2, ?o3, ?o4, ?o5, ?o6, ?o7, ?o8, ?o9, ?o10, trivial⟩
        case o0 =>
          intro f w2 hG hp hl
          have hE : Ext wr w2 := hG
          have hS := hE.size
          simp only [OpGoal]
          go_simp
          exact ⟨_, rfl, Ext.refl _, rfl⟩
        case o1 =>
          intro f w2 hG hp hl
          have hE : Ext wr w2 := hG
          have hS := hE.size
          simp only [OpGoal]
          go_simp
          exact ⟨_, rfl, Ext.refl _, rfl⟩
        case o2 =>
          intro f w2 hG hp hl
          have hE : Ext wr w2 := hG
          have hS := hE.size
          have q16 : f 0 = .slice (some ⟨b, off, none⟩) xs.length cap := tellV hp 0 0 rfl rfl (fun h => by cases h)
          have q17 : f 1 = .int .i64 k := tellV hp 1 1 rfl rfl (fun h => by cases h)
          simp only [OpGoal]
          go_simp
          exact ⟨_, rfl, Ext.refl _, rfl⟩
        case o3 =>
          intro f w2 hG hp hl
          have hE : Ext wr w2 := hG
          have hS := hE.size
          have q18 : f 2 = .pointer (some ⟨b, off + k, none⟩) := tellV hp 0 2 rfl rfl (fun h => by cases h)
          have hc2 := hE.cell hcell
          simp only [OpGoal]
          go_simp
          exact ⟨_, rfl, Ext.refl _, rfl⟩
        case o4 =>
          intro f w2 hG hp hl
          have hE : Ext wr w2 := hG
          have hS := hE.size
          simp only [OpGoal]
          go_simp
          exact ⟨_, rfl, Ext.refl _, rfl⟩
        case o5 =>
          intro f w2 hG hp hl
          have hE : Ext wr w2 := hG
          have hS := hE.size
          simp only [OpGoal]
          go_simp
          exact ⟨_, rfl, Ext.refl _, rfl⟩
        case o6 =>
          intro f w2 hG hp hl
          have hE : Ext wr w2 := hG
          have hS := hE.size
          have q20 : f 4 = .slice ad2 ys.length cap2 := tellV hp 0 4 rfl rfl (fun h => by cases h)
          have q21 : f 5 = .int .i64 k := tellV hp 1 5 rfl rfl (fun h => by cases h)
          change OpGoal _ _ _ f w2 Ext _
          refine og_call (P := Try.prog) _ _ _ #[f 4, f 5] Try.func94 (by kernel_rfl) (by kernel_rfl) rfl rfl (by kernel_rfl) ?_
          rw [q20, q21]
          refine ((pb' w2).out (hr2'.ext hE) (by omega) (by omega)).mono ?_
          rintro e w' ⟨rfl, rfl⟩
          exact ⟨_, rfl, Ext.refl _, rfl⟩
        case o7 =>
          intro f w2 hG hp hl
          have hE : Ext wr w2 := hG
          have hS := hE.size
          have q19 : f 3 = .int .i64 (a : Int) := tellV hp 0 3 rfl rfl (fun h => by cases h)
          have q22 : f 6 = .int .i64 (y0 : Int) := tellV hp 1 6 rfl rfl (fun h => by cases h)
          simp only [OpGoal]
          go_simp
          exact ⟨_, rfl, Ext.refl _, rfl⟩
        case o8 =>
          intro f w2 hG hp hl
          have hE : Ext wr w2 := hG
          have hS := hE.size
          simp only [OpGoal]
          go_simp
          exact ⟨_, rfl, Ext.refl _, rfl⟩
        case o9 =>
          intro f w2 hG hp hl
          have hE : Ext wr w2 := hG
          have hS := hE.size
          have q23 : f 7 = .int .i64 ((a : Int) - (y0 : Int)) := tellV hp 0 7 rfl rfl (fun h => by cases h)
          have q24 : f 8 = .int .i64 c := tellV hp 1 8 rfl rfl (fun h => by cases h)
          simp only [OpGoal]
          go_simp
          exact ⟨_, rfl, Ext.refl _, rfl⟩
        case o10 =>
          intro f w2 hG hp hl
          have hE : Ext wr w2 := hG
          have hS := hE.size
          have q25 : f 9 = .int .i64 ((a : Int) - (y0 : Int) - (c : Int)) := tellV hp 0 9 rfl rfl (fun h => by cases h)
          simp only [OpGoal]
          go_simp
          exact ⟨_, rfl, Ext.refl _, rfl⟩
      · intro f w2 hG hp
        have hE : Ext wr w2 := ChgS.nil hG
        have q8 : f 10 = .int .i64 ((a : Int) - (y0 : Int) - (c : Int)) := endV hp 10 (by decide) rfl (fun h => by cases h)
        try simp only [q8]
        clear hp
        have hex2 := hex.trans hE
        have hfr1 := hfr.ext hE
        have hsz1 := hex2.size
        rcases Nat.lt_or_ge a (y0 + c) with h1 | h1
        · obtain ⟨d, hd⟩ : ∃ d : Nat, (a : Int) - (y0 : Int) - (c : Int) + 10000 = (d : Int) := ⟨a + 10000 - y0 - c, by omega⟩
          have Hs := Hst d 1 (by rw [TK_eq]; omega) (by omega) (by rw [TK_eq]; omega)
          clear Hst
          go_wp2_with (at_builtin; refine wpList_append_fr _ rfl _ _ 32 rfl 3 .i64 8 Try.underlying32 info3 w.heap.size _ l [d] (some ⟨w2.heap.size, 0, none⟩) 1 1 rfl rfl rfl (hfr1.alloc _) (Rd.new1 w2 .i64 d _) (by rw [Hlen.out]; omega) (by rw [Hlen.out]; omega) (by simp; omega) ?_)
          intro v2 w3 hfr2 hgr2
          have hext2 := Ext.step_own (hex2.alloc (.cells #[.int .i64 (d : Int)] 3)) hgr2 hfr1.block
          go_wp2
          go_roundw
          case rel => exact ⟨k + 1, 1, _, rfl, rfl, hfr2, Hs, by omega, hext2⟩
          case measure => simp [intOf]; omega
        · obtain ⟨d, hd⟩ : ∃ d : Nat, (a : Int) - (y0 : Int) - (c : Int) = (d : Int) := ⟨a - y0 - c, by omega⟩
          have Hs := Hst d 0 (by rw [TK_eq]; omega) (by omega) (by rw [TK_eq]; omega)
          clear Hst
          go_wp2_with (at_builtin; refine wpList_append_fr _ rfl _ _ 32 rfl 3 .i64 8 Try.underlying32 info3 w.heap.size _ l [d] (some ⟨w2.heap.size, 0, none⟩) 1 1 rfl rfl rfl (hfr1.alloc _) (Rd.new1 w2 .i64 d _) (by rw [Hlen.out]; omega) (by rw [Hlen.out]; omega) (by simp; omega) ?_)
          intro v2 w3 hfr2 hgr2
          have hext2 := Ext.step_own (hex2.alloc (.cells #[.int .i64 (d : Int)] 3)) hgr2 hfr1.block
          go_wp2
          go_roundw
          case rel => exact ⟨k + 1, 0, _, rfl, rfl, hfr2, Hs, by omega, hext2⟩
          case measure => simp [intOf]; omega
    · have hke : k = xs.length := by omega
      subst hke
      have hfin := Hi.out.finish dx (by rw [Hx.out, Hy.out]; exact Hle.out)
      rw [Hx.out, Hy.out] at hfin
      have Hll := Lib.hid (show l.length ≤ 8796093022208 by rw [Hi.out.1]; omega)
      have Hfin := Lib.hid hfin
      clear hfin
      go_wp2_with fail
      refine (rtrim_frl _ l _ hfr.isL Hi.out.2.1 Hll.out).mono ?_
      rw [Hfin.out]
      rintro e w2 ⟨v', rfl, h5, hext2⟩
      go_wp2
      go_ret
      exact ⟨_, rfl, h5.mono hsz, hex.trans hext2⟩

def M1 (xs ys l : List Nat) (i : Nat) : Prop := l.length = xs.length + ys.length + 1 ∧ Dig TK l ∧ val TK l = val TK (xs.take i) * val TK ys ∧ i ≤ xs.length
def R1 (xs ys l : List Nat) (i k c : Nat) : Prop := l.length = xs.length + ys.length + 1 ∧ Dig TK l ∧ c < TK ∧ val TK l + TK ^ (i + k) * c = val TK (xs.take i) * val TK ys + gD xs i * TK ^ i * val TK (ys.take k) ∧ k ≤ ys.length + 1 ∧ i < xs.length
set_option maxRecDepth 100000 in
set_option maxHeartbeats 1000000 in
theorem M1.start {xs ys l : List Nat} {i : Nat} (h : M1 xs ys l i) (hi : i < xs.length) : R1 xs ys l i 0 0 := by
  obtain ⟨h1, h2, h3, h4⟩ := h
  exact ⟨h1, h2, by rw [TK_eq]; omega, by simp [h3, val], by omega, hi⟩
set_option maxRecDepth 100000 in
set_option maxHeartbeats 1000000 in
theorem R1.step {xs ys l : List Nat} {i k c n : Nat} (h : R1 xs ys l i k c) (hk : k ≤ ys.length) (dx : Dig TK xs) (dy : Dig TK ys) (hn : n = gD l (i + k) + gD xs i * gD ys k + c) :
    R1 xs ys (l.set (i + k) (n % TK)) i (k + 1) (n / TK) := by
  obtain ⟨h1, h2, h3, h4, h5, h6⟩ := h
  have hB : 0 < TK := by rw [TK_eq]; omega
  have hb := row_bound (dx.gD hB i) (dy.gD hB k) (h2.gD hB (i + k)) h3
  refine ⟨by simpa using h1, h2.set (Nat.mod_lt _ hB), ?_, ?_, by omega, h6⟩
  · refine Nat.div_lt_of_lt_mul ?_; rw [hn]; omega
  · have e1 := val_set (B := TK) l (i + k) (n % TK) (by omega)
    rw [← gD_lt (show i + k < l.length by omega)] at e1
    rw [take_gD ys k]
    have e2 := Nat.mod_add_div n TK
    have e3 : TK ^ (i + (k + 1)) * (n / TK) = TK ^ (i + k) * (TK * (n / TK)) := by rw [← Nat.add_assoc, Nat.pow_succ, Nat.mul_assoc]
    rw [e3]
    have e4 : TK ^ (i + k) * (n % TK + TK * (n / TK)) = TK ^ (i + k) * n := by rw [e2]
    rw [Nat.mul_add] at e4
    have e5 : TK ^ (i + k) * n = TK ^ (i + k) * gD l (i + k) + TK ^ (i + k) * (gD xs i * gD ys k) + TK ^ (i + k) * c := by rw [hn, Nat.mul_add, Nat.mul_add]
    have e6 : gD xs i * TK ^ i * (TK ^ k * gD ys k) = TK ^ (i + k) * (gD xs i * gD ys k) := by rw [Nat.pow_add]; ac_rfl
    rw [Nat.mul_add, e6]
    rw [Nat.mul_comm (gD l (i + k)), Nat.mul_comm (n % TK)] at e1
    omega
set_option maxRecDepth 100000 in
set_option maxHeartbeats 1000000 in
theorem R1.last {xs ys l : List Nat} {i c : Nat} (h : R1 xs ys l i (ys.length + 1) c) (dx : Dig TK xs) (dy : Dig TK ys) : c = 0 := by
  obtain ⟨h1, h2, h3, h4, h5, h6⟩ := h
  have hB : 0 < TK := by rw [TK_eq]; omega
  rw [List.take_of_length_le (show ys.length ≤ ys.length + 1 by omega)] at h4
  have hx := lo_lt hB dx (i + 1)
  rw [take_gD xs i] at hx
  have hy := val_lt hB dy
  have e : val TK (xs.take i) * val TK ys + gD xs i * TK ^ i * val TK ys = (val TK (xs.take i) + TK ^ i * gD xs i) * val TK ys := by rw [Nat.add_mul, Nat.mul_comm (TK ^ i)]
  rw [e] at h4
  have hlt : (val TK (xs.take i) + TK ^ i * gD xs i) * val TK ys < TK ^ (i + 1) * TK ^ ys.length := Nat.mul_lt_mul'' hx hy
  rw [← Nat.pow_add, show i + 1 + ys.length = i + (ys.length + 1) by omega] at hlt
  rcases Nat.eq_zero_or_pos c with h | h
  · exact h
  · have : TK ^ (i + (ys.length + 1)) * 1 ≤ TK ^ (i + (ys.length + 1)) * c := Nat.mul_le_mul_left _ h
    omega
set_option maxRecDepth 100000 in
set_option maxHeartbeats 1000000 in
theorem R1.next {xs ys l : List Nat} {i k : Nat} (h : R1 xs ys l i k 0) (hk : ys.length ≤ k) : M1 xs ys l (i + 1) := by
  obtain ⟨h1, h2, h3, h4, h5, h6⟩ := h
  rw [List.take_of_length_le hk] at h4
  refine ⟨h1, h2, ?_, by omega⟩
  rw [take_gD xs i, Nat.add_mul, Nat.mul_comm (TK ^ i)]
  omega

set_option maxRecDepth 100000 in
set_option maxHeartbeats 4000000 in
theorem rmul01_core (ad ad2 : Option Addr) (cap cap2 : Nat) (xs ys : List Nat) (w : World) (hr : Rd w ad (vals .i64 xs)) (hr2 : Rd w ad2 (vals .i64 ys))
    (hlen : xs.length ≤ 1099511627776) (hlen2 : ys.length ≤ 1099511627776) (dx : Dig TK xs) (dy : Dig TK ys) :
    Calls Try.prog 79 #[.slice ad xs.length cap, .slice ad2 ys.length cap2] w fun e w' => ∃ v', e = .returned v' ∧ FrN 3 .i64 TK w.heap.size w' v' (val TK xs * val TK ys) ∧ Ext w w' := by
  go_enter Try.func79, Try.ntmps79
  go_wp2_with (at_make; refine wpList_make_vals _ rfl _ _ 32 rfl 3 .i64 8 Try.underlying32 info3 .i64 .i64 _ _ (xs.length + ys.length + 1) rfl rfl (by omega) (by omega) (by omega) (by omega) ?_)
  intro w1 g hext hg hblk
  go_wp2_with fail
  go_loopw [6] (fun i wr => ∃ (k : Nat) (l : List Nat), i = .int .i64 k ∧ Hid (M1 xs ys l k) ∧ BlkAt 3 .i64 wr g l [] ∧ Ext w wr) (fun i _ => xs.length - (intOf i).toNat)
  case atStart => exact ⟨0, _, rfl, ⟨by simp, Dig.replicate (by rw [TK_eq]; omega) _, by simp [val, val_replicate], Nat.zero_le _⟩, hblk, hext⟩
  case round =>
    obtain ⟨i, l, rfl, hinv, hbl, hex⟩ := hrel
    have hi1 := hinv.out.2.2.2
    clear hblk hext
    by_cases hlt : i < xs.length
    · obtain ⟨b, off, rfl, hcells⟩ := hr.at (by rw [vals_length]; omega)
      have hcell := hex.cell (hcells i _ (vals_get .i64 xs i hlt))
      rw [← gD_lt hlt] at hcell
      have hcellW := hcells i _ (vals_get .i64 xs i hlt)
      rw [← gD_lt hlt] at hcellW
      clear hcells
      have Hrow := Lib.hid (hinv.out.start hlt)
      clear hinv
      go_wp2_with fail
      obtain ⟨wo, rfl⟩ : ∃ wo : World, wo = wr := ⟨_, rfl⟩
      go_loopw [7, 8] (fun cy kk wr => ∃ (k c : Nat) (l : List Nat), kk = .int .i64 k ∧ cy = .int .i64 c ∧ Hid (R1 xs ys l i k c) ∧ BlkAt 3 .i64 wr g l [] ∧ Ext w wr) (fun _ kk _ => ys.length + 1 - (intOf kk).toNat)
      case atStart => exact ⟨0, 0, l, rfl, rfl, Hrow, hbl, hex⟩
      case round =>
        obtain ⟨k, c, l, rfl, rfl, hrow, hbl, hex⟩ := hrel
        have hk1 := hrow.out.2.2.2.2.1
        have Hl1 := Lib.hid hrow.out.1
        clear hcell Hrow
        by_cases hgo : k < ys.length ∨ 0 < c
        · have hky : k ≤ ys.length := by
            rcases Nat.lt_or_ge ys.length k with h | h
            · have hke : k = ys.length + 1 := by omega
              subst hke
              have := hrow.out.last dx dy
              omega
            · exact h
          have hB : 0 < TK := by rw [TK_eq]; omega
          have hcell := hex.cell hcellW
          have Hst := fun n hn => Lib.hid (hrow.out.step (n := n) hky dx dy hn)
          have hc1 := hrow.out.2.2.1
          have ha1 := dx.gD hB i
          have hb1 := dy.gD hB k
          have ho1 := hrow.out.2.1.gD hB (i + k)
          obtain ⟨ik, hik⟩ : ∃ ik, ik = i + k := ⟨_, rfl⟩
          have hikl : ik < xs.length + ys.length + 1 := by omega
          have hcl := hbl.cell ik (by rw [Hl1.out]; omega)
          rw [← gD_lt (show ik < l.length by rw [Hl1.out]; omega)] at hcl
          have hset := fun y => Lib.hid (BlkAt.set hbl ik y (by rw [Hl1.out]; omega))
          have hfree := hbl.free ik
          rw [← hik] at Hst ho1
          obtain ⟨o, ho⟩ : ∃ a, a = gD l ik := ⟨_, rfl⟩
          obtain ⟨a, ha⟩ : ∃ a, a = gD xs i := ⟨_, rfl⟩
          obtain ⟨y0, hy0⟩ : ∃ b, b = gD ys k := ⟨_, rfl⟩
          have pb := place_calls ad2 cap2 ys k
          rw [← ha] at Hst ha1 hcell
          rw [← hy0] at Hst hb1 pb
          rw [← ho] at Hst ho1 hcl
          rw [TK_eq] at ha1 hb1 ho1 hc1
          obtain ⟨p, hp⟩ : ∃ p, p = a * y0 := ⟨_, rfl⟩
          have hpb : p ≤ 9999 * 9999 := by rw [hp]; exact Nat.mul_le_mul (by omega) (by omega)
          have hpi : (a : Int) * (y0 : Int) = (p : Int) := by rw [hp, Int.natCast_mul]
          have Hs := Hst _ rfl
          rw [← hp] at Hs
          obtain ⟨r, hrr⟩ : ∃ r : Nat, r = (o + p + c) % TK := ⟨_, rfl⟩
          obtain ⟨q, hqq⟩ : ∃ q : Nat, q = (o + p + c) / TK := ⟨_, rfl⟩
          rw [← hrr, ← hqq] at Hs
          rw [TK_eq] at hrr hqq
          have em : ((o : Int) + (p : Int) + (c : Int)) % 10000 = (r : Int) := by omega
          have ed : ((o : Int) + (p : Int) + (c : Int)) / 10000 = (q : Int) := by omega
          have hiki : (i : Int) + (k : Int) = (ik : Int) := by omega
          have Hik := Lib.hid hik
          have hw0 : IntKind.i64.wrap (ik : Int) = (ik : Int) := by simp (disch := omega) only [IntWalk.i64_in]
          have hw1 : IntKind.i64.wrap (p : Int) = (p : Int) := by simp (disch := omega) only [IntWalk.i64_in]
          have hw2 : IntKind.i64.wrap ((o : Int) + (p : Int)) = (o : Int) + (p : Int) := by simp (disch := omega) only [IntWalk.i64_in]
          have hw3 : IntKind.i64.wrap ((o : Int) + (p : Int) + (c : Int)) = (o : Int) + (p : Int) + (c : Int) := by simp (disch := omega) only [IntWalk.i64_in]
          have hikI : (ik : Int) < (xs.length : Int) + (ys.length : Int) + 1 := by omega
          have pb' := fun wz => Lib.hid (pb wz)
          have hr2' := hr2.ext hex
          have hky' := Lib.hid hky
          clear pb Hst hp hrr hqq ha hy0 ho hik hrow hky
          rcases (show k < ys.length ∨ ¬ k < ys.length ∧ 0 < c by omega) with h1 | ⟨h1, h2⟩
          all_goals
            clear hgo
            go_wp2_with fail
            refine wp_region_puts [] [PP.val (.slice (some ⟨g, 0, none⟩) (xs.length + ys.length + 1) (xs.length + ys.length + 1)), PP.val (.int .i64 i), PP.val (.int .i64 k), PP.val (.int .i64 (ik : Int)), PP.val (.pointer (some ⟨g, ik, none⟩)), PP.val (.int .i64 (o : Int)), PP.val (.slice (some ⟨b, off, none⟩) xs.length cap), PP.val (.int .i64 i), PP.val (.pointer (some ⟨b, off + i, none⟩)), PP.val (.int .i64 (a : Int)), PP.val (.slice ad2 ys.length cap2), PP.val (.int .i64 k), PP.val (.int .i64 (y0 : Int)), PP.val (.int .i64 (p : Int)), PP.val (.int .i64 ((o : Int) + (p : Int))), PP.val (.int .i64 c), PP.val (.int .i64 ((o : Int) + (p : Int) + (c : Int))), PP.val (.int .i64 ((o : Int) + (p : Int) + (c : Int)))] [] [0, 1, 2, 3, 4, 5, 6, 7, 8, 9, 10, 11, 12, 13, 14, 15, 16, 17]
              (by kernel_rfl) (by kernel_rfl) (fun f => (by simp only [fillR, fillL, List.setIfInBounds_toArray, List.set_cons_succ, List.set_cons_zero, Nat.reduceAdd]; rfl)) ?_ ?_ ?_ ?_ ?_
            · intro x hx; cases hx
            · intro x hx; cases hx
            · intro x hx; cases hx
            · refine ⟨?o0, ?o1, ?o2, ?o3, ?o4, ?o5, ?o6, ?o7, ?o8, ?o9, ?o10, ?o11, ?o12, ?o13, ?o14, ?o15, ?o16, ?o17, trivial⟩
              case o0 =>
                intro f w2 hG hp hl
                have hE : Ext wr w2 := hG
                have hS := hE.size
                simp only [OpGoal]
                go_simp
                exact ⟨_, rfl, Ext.refl _, rfl⟩
              case o1 =>
                intro f w2 hG hp hl
                have hE : Ext wr w2 := hG
                have hS := hE.size
                simp only [OpGoal]
                go_simp
                exact ⟨_, rfl, Ext.refl _, rfl⟩
              case o2 =>
                intro f w2 hG hp hl
                have hE : Ext wr w2 := hG
                have hS := hE.size
                simp only [OpGoal]
                go_simp
                exact ⟨_, rfl, Ext.refl _, rfl⟩
              case o3 =>
                intro f w2 hG hp hl
                have hE : Ext wr w2 := hG
                have hS := hE.size
                have q34 : f 1 = .int .i64 i := tellV hp 0 1 rfl rfl (fun h => by cases h)
                have q35 : f 2 = .int .i64 k := tellV hp 1 2 rfl rfl (fun h => by cases h)
                simp only [OpGoal]
                go_simp
                exact ⟨_, rfl, Ext.refl _, rfl⟩
              case o4 =>
                intro f w2 hG hp hl
                have hE : Ext wr w2 := hG
                have hS := hE.size
                have q33 : f 0 = .slice (some ⟨g, 0, none⟩) (xs.length + ys.length + 1) (xs.length + ys.length + 1) := tellV hp 0 0 rfl rfl (fun h => by cases h)
                have q36 : f 3 = .int .i64 (ik : Int) := tellV hp 1 3 rfl rfl (fun h => by cases h)
                simp only [OpGoal]
                go_simp
                exact ⟨_, rfl, Ext.refl _, rfl⟩
              case o5 =>
                intro f w2 hG hp hl
                have hE : Ext wr w2 := hG
                have hS := hE.size
                have q37 : f 4 = .pointer (some ⟨g, ik, none⟩) := tellV hp 0 4 rfl rfl (fun h => by cases h)
                have hc2 := hE.cell hcl
                simp only [OpGoal]
                go_simp
                exact ⟨_, rfl, Ext.refl _, rfl⟩
              case o6 =>
                intro f w2 hG hp hl
                have hE : Ext wr w2 := hG
                have hS := hE.size
                simp only [OpGoal]
                go_simp
                exact ⟨_, rfl, Ext.refl _, rfl⟩
              case o7 =>
                intro f w2 hG hp hl
                have hE : Ext wr w2 := hG
                have hS := hE.size
                simp only [OpGoal]
                go_simp
                exact ⟨_, rfl, Ext.refl _, rfl⟩
              case o8 =>
                intro f w2 hG hp hl
                have hE : Ext wr w2 := hG
                have hS := hE.size
                have q39 : f 6 = .slice (some ⟨b, off, none⟩) xs.length cap := tellV hp 0 6 rfl rfl (fun h => by cases h)
                have q40 : f 7 = .int .i64 i := tellV hp 1 7 rfl rfl (fun h => by cases h)
                simp only [OpGoal]
                go_simp
                exact ⟨_, rfl, Ext.refl _, rfl⟩
              case o9 =>
                intro f w2 hG hp hl
                have hE : Ext wr w2 := hG
                have hS := hE.size
                have q41 : f 8 = .pointer (some ⟨b, off + i, none⟩) := tellV hp 0 8 rfl rfl (fun h => by cases h)
                have hc2 := hE.cell hcell
                simp only [OpGoal]
                go_simp
                exact ⟨_, rfl, Ext.refl _, rfl⟩
              case o10 =>
                intro f w2 hG hp hl
                have hE : Ext wr w2 := hG
                have hS := hE.size
                simp only [OpGoal]
                go_simp
                exact ⟨_, rfl, Ext.refl _, rfl⟩
              case o11 =>
                intro f w2 hG hp hl
                have hE : Ext wr w2 := hG
                have hS := hE.size
                simp only [OpGoal]
                go_simp
                exact ⟨_, rfl, Ext.refl _, rfl⟩
              case o12 =>
                intro f w2 hG hp hl
                have hE : Ext wr w2 := hG
                have hS := hE.size
                have q43 : f 10 = .slice ad2 ys.length cap2 := tellV hp 0 10 rfl rfl (fun h => by cases h)
                have q44 : f 11 = .int .i64 k := tellV hp 1 11 rfl rfl (fun h => by cases h)
                change OpGoal _ _ _ f w2 Ext _
                refine og_call (P := Try.prog) _ _ _ #[f 10, f 11] Try.func94 (by kernel_rfl) (by kernel_rfl) rfl rfl (by kernel_rfl) ?_
                rw [q43, q44]
                refine ((pb' w2).out (hr2'.ext hE) (by omega) (by omega)).mono ?_
                rintro e w' ⟨rfl, rfl⟩
                exact ⟨_, rfl, Ext.refl _, rfl⟩
              case o13 =>
                intro f w2 hG hp hl
                have hE : Ext wr w2 := hG
                have hS := hE.size
                have q42 : f 9 = .int .i64 (a : Int) := tellV hp 0 9 rfl rfl (fun h => by cases h)
                have q45 : f 12 = .int .i64 (y0 : Int) := tellV hp 1 12 rfl rfl (fun h => by cases h)
                simp only [OpGoal]
                go_simp
                exact ⟨_, rfl, Ext.refl _, rfl⟩
              case o14 =>
                intro f w2 hG hp hl
                have hE : Ext wr w2 := hG
                have hS := hE.size
                have q38 : f 5 = .int .i64 (o : Int) := tellV hp 0 5 rfl rfl (fun h => by cases h)
                have q46 : f 13 = .int .i64 (p : Int) := tellV hp 1 13 rfl rfl (fun h => by cases h)
                simp only [OpGoal]
                go_simp
                exact ⟨_, rfl, Ext.refl _, rfl⟩
              case o15 =>
                intro f w2 hG hp hl
                have hE : Ext wr w2 := hG
                have hS := hE.size
                simp only [OpGoal]
                go_simp
                exact ⟨_, rfl, Ext.refl _, rfl⟩
              case o16 =>
                intro f w2 hG hp hl
                have hE : Ext wr w2 := hG
                have hS := hE.size
                have q47 : f 14 = .int .i64 ((o : Int) + (p : Int)) := tellV hp 0 14 rfl rfl (fun h => by cases h)
                have q48 : f 15 = .int .i64 c := tellV hp 1 15 rfl rfl (fun h => by cases h)
                simp only [OpGoal]
                go_simp
                exact ⟨_, rfl, Ext.refl _, rfl⟩
              case o17 =>
                intro f w2 hG hp hl
                have hE : Ext wr w2 := hG
                have hS := hE.size
                have q49 : f 16 = .int .i64 ((o : Int) + (p : Int) + (c : Int)) := tellV hp 0 16 rfl rfl (fun h => by cases h)
                simp only [OpGoal]
                go_simp
                exact ⟨_, rfl, Ext.refl _, rfl⟩
            · intro f w2 hG hp
              have hE : Ext wr w2 := ChgS.nil hG
              have q9 : f 17 = .int .i64 ((o : Int) + (p : Int) + (c : Int)) := endV hp 17 (by decide) rfl (fun h => by cases h)
              try simp only [q9]
              clear hp
              have hbl2 := hbl.ext hE
              have hex2 := hex.trans hE
              obtain ⟨old, hout⟩ := hbl2.got ik (by rw [Hl1.out]; omega)
              have hfree2 := hbl2.free ik
              have hset2 := BlkAt.set hbl2 ik r (by rw [Hl1.out]; omega)
              have hex3 := hex2.setCell (p := ⟨g, ik, none⟩) hg (.int .i64 r)
              clear hset hfree
              go_wp2_with fail
              go_roundw
              case rel => exact ⟨k + 1, q, _, rfl, by rw [ed], Hs, hset2, hex3⟩
              case measure => have := hky'.out; simp [intOf]; omega
        · have h1 : ¬ k < ys.length := by omega
          have h2 : c = 0 := by omega
          subst h2
          have Hn := Lib.hid (hrow.out.next (by omega))
          clear hrow hgo
          go_wp2_with fail
          go_roundw
          case rel => exact ⟨i + 1, _, by go_num, Hn, hbl, hex⟩
          case measure => simp [intOf]; omega
    · have hi : i = xs.length := by omega
      subst hi
      have Hl := Lib.hid hinv.out.1
      have Hd := Lib.hid hinv.out.2.1
      have Hv : Hid (val TK l = val TK xs * val TK ys) := by have := hinv.out.2.2.1; rwa [List.take_of_length_le (Nat.le_refl _)] at this
      clear hinv
      have hsz := hex.size
      have hIs : IsL .i64 wr (.slice (some ⟨g, 0, none⟩) (xs.length + ys.length + 1) (xs.length + ys.length + 1)) l := ⟨_, xs.length + ys.length + 1, by rw [Hl.out], by rw [Hl.out]; omega, by omega, hbl.rd⟩
      go_wp2_with fail
      refine (rtrim_frl _ l _ hIs Hd.out (by rw [Hl.out]; omega)).mono ?_
      rw [Hv.out]
      rintro e w2 ⟨v', rfl, h5, hext2⟩
      go_wp2
      go_ret
      exact ⟨_, rfl, h5.mono hsz, hex.trans hext2⟩
set_option maxRecDepth 100000 in
set_option maxHeartbeats 1000000 in
/-- ref01.Mul. -/
theorem rmul01_calls (v u : Value) (x y : Nat) (w : World) (hv : IsN .i64 TK w v x) (hu : IsN .i64 TK w u y) :
    Calls Try.prog 79 #[v, u] w fun e w' => ∃ v', e = .returned v' ∧ FrN 3 .i64 TK w.heap.size w' v' (x * y) ∧ Ext w w' := by
  obtain ⟨xs, ⟨ad, cap, rfl, hlc, hcap, hr⟩, hlen, dx, rfl⟩ := hv
  obtain ⟨ys, ⟨ad2, cap2, rfl, hlc2, hcap2, hr2⟩, hlen2, dy, rfl⟩ := hu
  (first | rw [LIM_eq] at hlen hlen2 | rw [LIM_eqT] at hlen hlen2)
  exact rmul01_core ad ad2 cap cap2 xs ys w hr hr2 hlen hlen2 dx dy
end Go.Proofs.Ytnefipinicfegaa
