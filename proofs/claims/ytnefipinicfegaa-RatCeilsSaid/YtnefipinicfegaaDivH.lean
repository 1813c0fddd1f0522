/-
  nat.DivMod, walked.
-/
import Derived.Test.YtnefipinicfegaaTwo
namespace Go.Proofs.Ytnefipinicfegaa
open Go.RowKit
set_option linter.unusedVariables false
set_option linter.unusedSimpArgs false

theorem frN_nil (e : TypeId) (k : IntKind) (B B0 : Nat) (w : World) : FrN e k B B0 w (.slice none 0 0) 0 := ⟨none, 0, rfl, Nat.le_refl _, by omega, .inl ⟨rfl, rfl, rfl⟩⟩

set_option maxHeartbeats 400000 in
/-- nat.DivMod by 0. -/
theorem divmod_zero (v u : Value) (x : Nat) (w : World) (hv : IsN .u64 W w v x) (hu : IsN .u64 W w u 0) :
    Calls Try.prog 86 #[v, u] w fun e w' => e = .returned (.tuple #[.slice none 0 0, .slice none 0 0, .int .i64 3]) ∧ Ext w w' := by
  obtain ⟨xs, ⟨ad, cap, rfl, hlc, hcap, hr⟩, hlen, hd, hval⟩ := hv
  obtain ⟨ys, ⟨ad2, cap2, rfl, hlc2, hcap2, hr2⟩, hlen2, hd2, hval2⟩ := hu
  have hy : tz ys = [] := by rw [tz_eq_dg W_gt hd2, hval2]; rfl
  go_enter Try.func86, Try.ntmps86
  go_wp2_with fail
  refine (bare_calls ad _ cap xs w rfl hr hlc hcap).mono ?_
  rintro e w' ⟨rfl, rfl⟩
  go_wp2_with fail
  refine (bare_calls ad2 _ cap2 ys w rfl hr2 hlc2 hcap2).mono ?_
  rintro e w' ⟨rfl, rfl⟩
  rw [hy]
  go_wp2_with fail
  go_ret3
  exact ⟨rfl, Ext.refl _⟩

theorem isN_tz {w : World} {ad : Option Addr} {cap : Nat} {xs : List Nat} {n : Nat} (hr : Rd w ad (vals .u64 xs)) (hlc : xs.length ≤ cap) (hcap : cap ≤ 9223372036854775807) (hlen : xs.length ≤ LIM .u64) (hd : Dig W xs) (hval : val W xs = n) :
    Rd w ad (vals .u64 (tz xs)) ∧ (tz xs).length ≤ cap ∧ (tz xs).length ≤ 17592186044160 ∧ tz xs = dg W n := by
  have htl := tz_length_le xs
  rw [LIM_eq] at hlen
  exact ⟨by rw [← tz_take, vals_take]; exact hr.take _, by omega, by omega, by rw [tz_eq_dg W_gt hd, hval]⟩

set_option maxHeartbeats 1000000 in
/-- nat.DivMod where the quotient is 0. -/
theorem divmod_less (v u : Value) (x y : Nat) (w : World) (hv : IsN .u64 W w v x) (hu : IsN .u64 W w u y) (hy : 0 < y) (hlt : x < y) :
    Calls Try.prog 86 #[v, u] w fun e w' => ∃ vq vr, e = .returned (.tuple #[vq, vr, .int .i64 0]) ∧ FrN 79 .u64 W w.heap.size w' vq (x / y) ∧ FrN 79 .u64 W w.heap.size w' vr (x % y) ∧ Ext w w' := by
  obtain ⟨xs, ⟨ad, cap, rfl, hlc, hcap, hr⟩, hlen, hd, hval⟩ := hv
  obtain ⟨ys, ⟨ad2, cap2, rfl, hlc2, hcap2, hr2⟩, hlen2, hd2, hval2⟩ := hu
  obtain ⟨tr, tc, tl, te⟩ := isN_tz hr hlc hcap hlen hd hval
  obtain ⟨tr2, tc2, tl2, te2⟩ := isN_tz hr2 hlc2 hcap2 hlen2 hd2 hval2
  have Te := Lib.hid te
  have Te2 := Lib.hid te2
  clear te te2 hval hval2 hd hd2 hlen hlen2
  go_enter Try.func86, Try.ntmps86
  go_wp2_with fail
  refine (bare_calls ad _ cap xs w rfl hr hlc hcap).mono ?_
  rintro e w' ⟨rfl, rfl⟩
  go_wp2_with fail
  refine (bare_calls ad2 _ cap2 ys w rfl hr2 hlc2 hcap2).mono ?_
  rintro e w' ⟨rfl, rfl⟩
  clear hr hr2 hlc hlc2
  generalize tz xs = p at *
  generalize tz ys = q at *
  have dp : Dig W p := by rw [Te.out]; exact (dg_can W_gt x).1
  have dq : Dig W q := by rw [Te2.out]; exact (dg_can W_gt y).1
  have hq0 : 0 < q.length := by
    rcases Nat.eq_zero_or_pos q.length with h | h
    · have hy0 : y = 0 := (dg_eq_nil W_gt).1 (by rw [← Te2.out]; exact List.eq_nil_of_length_eq_zero h)
      omega
    · exact h
  have hb : ((q.length : Int) == 0) = false := beq_eq_false_iff_ne.2 (by omega)
  have i1 := isN_of tr rfl tc hcap tl dp (by rw [Te.out, dg_val W_gt] : val W p = x)
  have i2 := isN_of tr2 rfl tc2 hcap2 tl2 dq (by rw [Te2.out, dg_val W_gt] : val W q = y)
  have hc : decide (cmpN x y < 0) = true := by unfold cmpN; rw [if_pos hlt]; rfl
  have hcmp := Lib.hid (cmp_calls _ _ x y w i1 i2)
  have Hlt := Lib.hid hlt
  clear i1 i2 dp dq hlt
  generalize cmpN x y = cc at *
  go_wp2_with fail
  refine hcmp.out.mono ?_
  rintro e w1 ⟨rfl, hext⟩
  go_wp2_with fail
  refine (clone_calls ad _ cap p w1 rfl (tr.ext hext) tc hcap (by rw [BIG_eq]; omega)).mono ?_
  rintro e w2 ⟨v', rfl, hfr, hext2⟩
  go_wp2
  go_ret3
  rw [Te.out] at hfr
  refine ⟨_, _, rfl, ?_, ?_, hext.trans hext2⟩
  · rw [Nat.div_eq_of_lt Hlt.out]; exact frN_nil _ _ _ _ _
  · rw [Nat.mod_eq_of_lt Hlt.out]; exact FrN.mono hfr hext.size

theorem Rd.head {w : World} {ad : Option Addr} {xs : List Nat} (h : Rd w ad (vals .u64 xs)) (hne : 0 < xs.length) : ∃ b off, ad = some ⟨b, off, none⟩ ∧ ∀ i, i < xs.length → w.cell? ⟨b, off + i, none⟩ = some (.int .u64 (gD xs i : Int)) := by
  obtain ⟨b, off, h1, h2⟩ := h.at (by rw [vals_length]; exact hne)
  exact ⟨b, off, h1, fun i hi => by rw [gD_lt hi]; exact h2 i _ (vals_get .u64 xs i hi)⟩

set_option maxHeartbeats 1000000 in
/-- nat.DivMod by one word. -/
theorem divmod_word (v u : Value) (x y : Nat) (w : World) (hv : IsN .u64 W w v x) (hu : IsN .u64 W w u y) (hy : 0 < y) (hlt : y ≤ x) (hs1 : sz W y = 1) :
    Calls Try.prog 86 #[v, u] w fun e w' => ∃ vq vr, e = .returned (.tuple #[vq, vr, .int .i64 0]) ∧ FrN 79 .u64 W w.heap.size w' vq (x / y) ∧ FrN 79 .u64 W w.heap.size w' vr (x % y) ∧ Ext w w' := by
  obtain ⟨xs, ⟨ad, cap, rfl, hlc, hcap, hr⟩, hlen, hd, hval⟩ := hv
  obtain ⟨ys, ⟨ad2, cap2, rfl, hlc2, hcap2, hr2⟩, hlen2, hd2, hval2⟩ := hu
  obtain ⟨tr, tc, tl, te⟩ := isN_tz hr hlc hcap hlen hd hval
  obtain ⟨tr2, tc2, tl2, te2⟩ := isN_tz hr2 hlc2 hcap2 hlen2 hd2 hval2
  have Te := Lib.hid te
  have Te2 := Lib.hid te2
  clear te te2 hval hval2 hd hd2 hlen hlen2
  go_enter Try.func86, Try.ntmps86
  go_wp2_with fail
  refine (bare_calls ad _ cap xs w rfl hr hlc hcap).mono ?_
  rintro e w' ⟨rfl, rfl⟩
  go_wp2_with fail
  refine (bare_calls ad2 _ cap2 ys w rfl hr2 hlc2 hcap2).mono ?_
  rintro e w' ⟨rfl, rfl⟩
  clear hr hr2 hlc hlc2
  generalize tz xs = p at *
  generalize tz ys = q at *
  have dp : Dig W p := by rw [Te.out]; exact (dg_can W_gt x).1
  have dq : Dig W q := by rw [Te2.out]; exact (dg_can W_gt y).1
  have hq0 : 0 < q.length := by
    rcases Nat.eq_zero_or_pos q.length with h | h
    · have hy0 : y = 0 := (dg_eq_nil W_gt).1 (by rw [← Te2.out]; exact List.eq_nil_of_length_eq_zero h)
      omega
    · exact h
  have hb : ((q.length : Int) == 0) = false := beq_eq_false_iff_ne.2 (by omega)
  have Vp : Hid (val W p = x) := by show val W p = x; rw [Te.out, dg_val W_gt]
  have Vq : Hid (val W q = y) := by show val W q = y; rw [Te2.out, dg_val W_gt]
  have i1 := isN_of tr rfl tc hcap tl dp (by rw [Te.out, dg_val W_gt] : val W p = x)
  have i2 := isN_of tr2 rfl tc2 hcap2 tl2 dq (by rw [Te2.out, dg_val W_gt] : val W q = y)
  have hq1 : q.length = 1 := by rw [Te2.out]; exact hs1
  have hqy : gD q 0 = y := by
    match q, hq1, Vq with
    | [z], _, Vq => have := Vq.out; simpa [val, gD] using this
  have hyW : y < W := by rw [← hqy]; exact dq.gD (by rw [W_eq]; omega) 0
  have hc : decide (cmpN x y < 0) = false := by unfold cmpN; rw [if_neg (by omega)]; split <;> rfl
  have hcmp := Lib.hid (cmp_calls _ _ x y w i1 i2)
  clear i1 i2 hlt
  generalize cmpN x y = cc at *
  obtain ⟨b, off, rfl, hcells⟩ := tr2.head hq0
  have hcell := hcells 0 hq0
  rw [hqy] at hcell
  clear hcells
  have Hq1 := Lib.hid hq1
  have hq2 : ((q.length : Int) == 1) = true := beq_iff_eq.2 (by omega)
  have hq3 : (0 : Int) < (q.length : Int) := by omega
  clear hq1 hqy hs1
  go_wp2_with fail
  refine hcmp.out.mono ?_
  rintro e w1 ⟨rfl, hext⟩
  have hcell1 := hext.cell hcell
  simp only [Nat.add_zero] at hcell1
  go_wp2_with fail
  refine (byWord_core ad cap p y w1 (tr.ext hext) tl dp hy hyW).mono ?_
  rintro e w2 ⟨vq, rfl, hfq, hext2⟩
  rw [Vp.out] at hfq
  have hmy : x % y < W := Nat.lt_trans (Nat.mod_lt _ hy) hyW
  rw [Vp.out]
  go_wp2_with fail
  have hn1 := isN_of (n := 1) (Rd.new1 w2 .u64 (x % y) 79) rfl (Nat.le_refl 1) (by omega) (by omega) (Dig.cons hmy Dig.nil) (val_singleton (B := W) _)
  refine (trim_calls _ (x % y) _ hn1).mono ?_
  rintro e w3 ⟨vr, rfl, hfr, hext3⟩
  have hext4 := ((Ext.refl w2).alloc (.cells #[.int .u64 ((x % y : Nat) : Int)] 79)).trans hext3
  go_wp2
  go_ret3
  exact ⟨vq, vr, rfl, FrN.mono (hfq.ext hext4) hext.size, FrN.mono hfr (by have := hext.size; have := hext2.size; simp; omega), hext.trans (hext2.trans hext4)⟩

theorem gD_top {l : List Nat} {n : Nat} (h : l.length = n + 1) (d : Dig W l) : gD l n = val W l / W ^ n := by
  have hW : 0 < W := by rw [W_eq]; omega
  have lt := val_lt hW (d.take n)
  rw [List.length_take, Nat.min_eq_left (by omega)] at lt
  rw [val_end l n h, Nat.add_comm, Nat.mul_add_div (Nat.pow_pos hW), Nat.div_eq_of_lt lt, Nat.add_zero]

theorem norm_facts {y lo top s n L : Nat} (hy : y = lo + W ^ n * top) (hlo : lo < W ^ n) (h1 : 2 ^ (L - 1) ≤ top) (h2 : top < 2 ^ L) (hL : 1 ≤ L) (hs : L + s = 64) :
    (dg W (y * 2 ^ s)).length = n + 1 ∧ 9223372036854775808 ≤ gD (dg W (y * 2 ^ s)) n ∧ W ^ n * 9223372036854775808 ≤ y * 2 ^ s ∧ y * 2 ^ s < W ^ (n + 1) := by
  have hW : 0 < W := by rw [W_eq]; omega
  have hp : 0 < 2 ^ s := Nat.pow_pos (by omega)
  have e1 : 2 ^ (L - 1) * 2 ^ s = 9223372036854775808 := by rw [← Nat.pow_add, show L - 1 + s = 63 by omega]
  have e2 : 2 ^ L * 2 ^ s = W := by rw [← Nat.pow_add, hs, W_eq]
  have lowb : W ^ n * 9223372036854775808 ≤ y * 2 ^ s := by
    rw [← e1, hy, Nat.add_mul, Nat.mul_assoc]
    have := Nat.mul_le_mul_left (W ^ n) (Nat.mul_le_mul_right (2 ^ s) h1)
    omega
  have upb : y * 2 ^ s < W ^ (n + 1) := by
    have a : y < W ^ n * (top + 1) := by rw [Nat.mul_add]; omega
    have b : y * 2 ^ s < W ^ n * (top + 1) * 2 ^ s := Nat.mul_lt_mul_of_pos_right a hp
    have c : W ^ n * ((top + 1) * 2 ^ s) ≤ W ^ n * (2 ^ L * 2 ^ s) := Nat.mul_le_mul_left _ (Nat.mul_le_mul_right _ h2)
    rw [e2] at c
    rw [Nat.pow_succ]
    rw [Nat.mul_assoc] at b
    omega
  have len : (dg W (y * 2 ^ s)).length = n + 1 := by
    have a := dg_len_le W_gt upb
    have b := dg_len_lt W_gt (y * 2 ^ s)
    rcases Nat.lt_or_ge (dg W (y * 2 ^ s)).length (n + 1) with h | h
    · have c : W ^ (dg W (y * 2 ^ s)).length ≤ W ^ n := Nat.pow_le_pow_right hW (by omega)
      omega
    · omega
  refine ⟨len, ?_, lowb, upb⟩
  rw [gD_top len (dg_can W_gt _).1, dg_val W_gt, Nat.le_div_iff_mul_le (Nat.pow_pos hW), Nat.mul_comm]
  exact lowb

end Go.Proofs.Ytnefipinicfegaa
